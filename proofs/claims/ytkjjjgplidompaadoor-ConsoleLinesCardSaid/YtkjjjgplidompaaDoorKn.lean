/-
  A step's line: the program's Line, whole. Walk.
-/
import Derived.Test.YtkjjjgplidompaaDoorKl
namespace Go.Proofs.YtkjjjgplidompaaDoor.B
open Go.RowKit Go.Proofs.YtkjjjgplidompaaDoorW.PrintWords Go.Proofs.YtkjjjgplidompaaDoorW.PrintLast Go.Proofs.YtkjjjgplidompaaDoorW.PrintMore
set_option linter.unusedVariables false
set_option linter.unusedSimpArgs false
theorem line_tail_a (s : LStep) (w0 : World) (g1 : Nat) (v4 : Value) (rest : Code) (hr : tl1 (tl1 (tl1 (Tryd.f11.body.getD .skip))) = rest) (a : Act) (ha : a = lineF s g1 v4 (fun i => a.tmps.getD i undef)) (w : World) (hg1 : w.heap[g1]? = some (.cells (stC s.kind s.at_ s.id s.stream s.cls s.size s.data) 26 (0, 0))) (base : Nat) (hR : RowV w base 9 1 v4 (rawW s).length (strsV (rawW s))) (hB : Below w0.heap.size w0 w) (hlen : (rawL s).length ≤ 900000) :
    rest.wp Tryd.prog (bodyPost Tryd.prog Tryd.f11 (LinePost s w0)) a w := by
  rw [ha]
  exact line_tail s w0 g1 v4 rest hr _ w hg1 base hR hB hlen
theorem itoa_len (n : Int) (h0 : -9223372036854775808 ≤ n) (h1 : n ≤ 9223372036854775807) : (Lib.itoa n).length ≤ 20 := by
  unfold Lib.itoa
  split
  · have := decDigits_len 19 n.natAbs (by omega) (by omega)
    simp; omega
  · have := decDigits_len 19 n.toNat (by omega) (by omega)
    omega
theorem hexL_len (d : List UInt8) : (hexL d).length ≤ 2 * d.length + 1 := by
  unfold hexL
  split
  · simp
  · rw [hexP_length]; omega
/-- What a step's numbers hold. -/
structure StI (s : LStep) : Prop where
  a : -9223372036854775808 ≤ s.at_ ∧ s.at_ ≤ 9223372036854775807
  p : -9223372036854775808 ≤ s.id ∧ s.id ≤ 9223372036854775807
  q : -9223372036854775808 ≤ s.stream ∧ s.stream ≤ 9223372036854775807
  u : -9223372036854775808 ≤ s.cls ∧ s.cls ≤ 9223372036854775807
  v : -9223372036854775808 ≤ s.size ∧ s.size ≤ 9223372036854775807
  d : s.data.length ≤ 40000
theorem raw_len (s : LStep) (h : StI s) : (rawL s).length ≤ 900000 := by
  have h1 := itoa_len s.at_ h.a.1 h.a.2
  have h2 := itoa_len s.id h.p.1 h.p.2
  have h3 := itoa_len s.stream h.q.1 h.q.2
  have h4 := itoa_len s.cls h.u.1 h.u.2
  have h5 := itoa_len s.size h.v.1 h.v.2
  have h6 := hexL_len s.data
  have h7 := h.d
  unfold rawL rawW
  split
  · simp [Lib.join_cons, Lib.joinTail]; omega
  · split
    · simp [Lib.join_cons, Lib.joinTail]; omega
    · split
      · simp [Lib.join_cons, Lib.joinTail]; omega
      · simp [Lib.join_cons, Lib.joinTail]; omega
def fourN (s : LStep) : List Int := [s.id, s.stream, s.cls, s.size]
def fourW (A : List UInt8) (s : LStep) (j : Nat) : List (List UInt8) := [101] :: A :: ((fourN s).take j).map Lib.itoa
theorem fourW_length (A : List UInt8) (s : LStep) (j : Nat) (h : j ≤ 4) : (fourW A s j).length = 2 + j := by simp [fourW, fourN]; omega
theorem fourW_snoc (A : List UInt8) (s : LStep) (j : Nat) (h : j < 4) : strsV (fourW A s (j + 1)) = strsV (fourW A s j) ++ [.string (tx (Lib.itoa ((fourN s).getD j 0)))] := by
  rw [← strsV_snoc]
  congr 1
  have h4 : j = 0 ∨ j = 1 ∨ j = 2 ∨ j = 3 := by omega
  rcases h4 with rfl | rfl | rfl | rfl <;> rfl
def LRel (s : LStep) (w : World) (g1 gi : Nat) (A : List UInt8) (v4 v48 : Value) (wr : World) : Prop := ∃ j : Nat, v48 = .int .i64 j ∧ j ≤ 4 ∧ Aside0 (RowV wr w.heap.size 9 1 v4 (2 + j) (strsV (fourW A s j))) ∧ Aside0 (wr.heap[g1]? = some (.cells (stC s.kind s.at_ s.id s.stream s.cls s.size s.data) 26 (0, 0))) ∧ Aside0 (wr.heap[gi]? = some (.cells #[.int .i64 s.id, .int .i64 s.stream, .int .i64 s.cls, .int .i64 s.size] 3 (0, 0))) ∧ Aside0 (Below w.heap.size w wr) ∧ Aside0 (Tab wr)
set_option maxHeartbeats 4000000 in
set_option maxRecDepth 100000 in
theorem line_any (s : LStep) (w : World) (hT : Tab w) (hs : StI s) : Calls Tryd.prog 11 #[stV s] w (LinePost s w) := by
  have HRL := Aside0.mk (raw_len s hs)
  have hTw := Aside0.mk hT
  obtain ⟨k, hk⟩ : ∃ k, k = s.kind := ⟨_, rfl⟩
  go_enter Tryd.func11, Tryd.ntmps11
  unfold stV stC
  refine wp_seq_k (fun K1 h1 => ?_)
  have H1 := Aside0.mk h1
  clear h1
  go_wp2_with fail
  (try simp only [Exit.then])
  refine H1.out _ _ (wp_seq_k (fun K2 h2 => ?_))
  have H2 := Aside0.mk h2
  clear h2 H1
  obtain ⟨g1, hg1⟩ : ∃ g, g = w.heap.size := ⟨_, rfl⟩
  obtain ⟨W1, hW1⟩ : ∃ W1, W1 = w.alloc (.cells #[.int .i64 s.kind, .int .i64 s.at_, .int .i64 s.id, .int .i64 s.stream, .int .i64 s.cls, .int .i64 s.size, .string (tx s.data)] 26) := ⟨_, rfl⟩
  have k1 : W1.heap[g1]? = some (.cells (stC s.kind s.at_ s.id s.stream s.cls s.size s.data) 26 (0, 0)) := by rw [hW1, hg1]; exact blk_new w _
  have HB0 : Aside0 (Below w.heap.size w W1) := ⟨by rw [hW1]; exact (Below.refl _ w).alloc (Nat.le_refl _) _⟩
  have hT1 := hT.below HB0.out
  have HK1 := Aside0.mk k1
  have HG := Aside0.mk hg1
  have HG1 := Aside0.mk (show w.heap.size ≤ g1 by omega)
  rw [← hg1, ← hW1]
  have i1 := (stcells k1).1.2.1
  have HK := Aside0.mk hk
  clear k1 hg1 hW1 hk
  go_wp2_with fail
  refine (format_any s.at_ hs.a.1 hs.a.2 _ hT1).mono ?_
  rintro e w2 ⟨rfl, hb2⟩
  have hT2 := hT1.below hb2
  have K1' := (hb2.block g1 (blk_ltI HK1.out)).trans HK1.out
  have HB2 := Aside0.mk (HB0.out.trans (hb2.mono HB0.out.size))
  clear hb2 HB0 HK1 hT1 i1
  obtain ⟨A, hA⟩ : ∃ A, A = Lib.itoa s.at_ := ⟨_, rfl⟩
  rw [← hA]
  have HA := Aside0.mk hA
  clear hA
  go_wp2_with fail
  (try simp only [Exit.then])
  refine H2.out _ _ (wp_seq_k (fun K3 h3 => ?_))
  have H3 := Aside0.mk h3
  clear h3 H2
  obtain ⟨gl, hgl⟩ : ∃ g, g = w2.heap.size := ⟨_, rfl⟩
  obtain ⟨W3, hW3⟩ : ∃ W3, W3 = w2.alloc (.cells #[.string { data := #[] }, .string (tx A)] 9) := ⟨_, rfl⟩
  have KL : W3.heap[gl]? = some (.cells #[.string (tx []), .string (tx A)] 9 (0, 0)) := by rw [hW3, hgl]; exact blk_new w2 _
  have K13 : W3.heap[g1]? = some (.cells (stC s.kind s.at_ s.id s.stream s.cls s.size s.data) 26 (0, 0)) := by rw [hW3]; exact (Below.heap_alloc w2 _ g1 (blk_ltI K1')).trans K1'
  have HB3 : Aside0 (Below w.heap.size w W3) := ⟨by rw [hW3]; exact HB2.out.alloc HB2.out.size _⟩
  have hT3 : Aside0 (Tab W3) := ⟨by rw [hW3]; exact hT2.below ((Below.refl _ w2).alloc (Nat.le_refl _) _)⟩
  have hlw : w.heap.size ≤ gl := by rw [hgl]; exact HB2.out.size
  have h1l : g1 ≠ gl := by have := blk_ltI K1'; omega
  rw [← hW3, ← hgl]
  have HLW := Aside0.mk hlw
  clear hW3 hgl K1' HB2 hT2 hT hlw
  obtain ⟨⟨c0, c1, c2, c3, c4, c5, c6⟩, f0, f1, f2, f3, f4, f5, f6⟩ := stcells K13
  have b0 := blk_cell KL 0
  have b1 := blk_cell KL 1
  simp only [List.getElem?_toArray, List.getElem?_cons_zero, List.getElem?_cons_succ] at b0 b1
  have e0 := blk_frozen KL 0
  have e1 := blk_frozen KL 1
  have l1 := blk_ltI K13
  have ll := blk_ltI KL
  have HKL := Aside0.mk KL
  have HK1 := Aside0.mk K13
  have HS := Aside0.mk hs
  clear KL K13 hs
  rw [← HK.out] at c0
  rw [← HK.out]
  by_cases h2 : k = 2
  · have q2 : (k == 2) = true := by rw [h2]; rfl
    have HW : Aside0 (rawW s = [[116], A]) := ⟨by unfold rawW; rw [if_pos (by rw [← HK.out]; exact h2), HA.out]⟩
    clear h2
    go_wp2_with fail
    (try simp only [Exit.then])
    have z := blk_set HKL.out 0 (.string (tx [116]))
    simp only [List.setIfInBounds_toArray, List.set_cons_zero, List.set_cons_succ] at z
    refine H3.out _ _ (line_tail_a s w g1 _ _ rfl _ (by unfold lineF stV stC; rw [← HK.out]; rfl) _ (stkeep HK1.out h1l 0 _) w.heap.size (by rw [HW.out]; exact RowV.of_blk (cs := strsV [[116], A]) z HLW.out (by simp [strsV, maxLen])) (HB3.out.setCell (p := ⟨gl, 0, none⟩) HLW.out _) HRL.out)
  · have q2 : (k == 2) = false := beq_eq_false_iff_ne.2 h2
    by_cases h3 : k = 3
    · have q3 : (k == 3) = true := by rw [h3]; rfl
      have HW : Aside0 (rawW s = [[102], A, hexL s.data]) := ⟨by unfold rawW; rw [if_neg (by rw [← HK.out]; exact h2), if_pos (by rw [← HK.out]; exact h3), HA.out]⟩
      clear h2 h3
      go_wp2_with fail
      refine (hex_any (tx s.data) _ (by rw [tx_size]; have := HS.out.d; omega)).mono ?_
      rintro e w5 ⟨rfl, hb5⟩
      rw [tx_data]
      have z := blk_set HKL.out 0 (.string (tx [102]))
      simp only [List.setIfInBounds_toArray, List.set_cons_zero, List.set_cons_succ] at z
      have K5 := (hb5.block g1 (by simp [World.setCell]; exact l1)).trans (stkeep HK1.out h1l 0 (.string (tx [102])))
      have R0 := RowV.of_blk (cs := strsV [[102], A]) ((hb5.block gl (blk_ltI z)).trans z) HLW.out (by simp [strsV, maxLen])
      have HB5 := Aside0.mk ((HB3.out.setCell (p := ⟨gl, 0, none⟩) HLW.out (.string (tx [102]))).trans (hb5.mono (Nat.le_trans HB3.out.size (by simp [World.setCell]))))
      obtain ⟨X, hX⟩ : ∃ X, X = hexL s.data := ⟨_, rfl⟩
      rw [← hX] at HW
      rw [← hX]
      have XR := Aside0.mk (R0.alloc (.cells #[.string (tx X)] 9))
      have XB := Aside0.mk (HB5.out.alloc HB5.out.size (.cells #[.string (tx X)] 9))
      have XK := Aside0.mk ((Below.heap_alloc w5 (.cells #[.string (tx X)] 9) g1 (blk_ltI K5)).trans K5)
      have HNX := Aside0.mk (new_news w5 [.string (tx X)] 9)
      clear hb5 z K5 R0 hX HB5 c0 c1 c2 c3 c4 c5 c6 f0 f1 f2 f3 f4 f5 f6 b0 b1 e0 e1 l1 ll
      go_wp2_with (at_builtin; go_loud (refine row_append (w := w5.alloc (.cells #[.string (tx X)] 9)) rfl (.tmp 24) (.tmp 28) 38 rfl 9 Tryd.t9 (.string ByteArray.empty) 1 16 Tryd.underlying38 (by kernel_rfl) rfl rfl rfl (by decide) (by decide) w.heap.size _ 2 (strsV [[102], A]) (by rfl) XR.out ⟨w5.heap.size, 0, none⟩ 1 1 [.string (tx X)] (by rfl) rfl HNX.out (by simp [Value.oneCell']) (by simp only [maxLen]; omega) (by omega) XB.out.size ?_); intro v1 w6 hR6 hG6 hO6 hF6; have XB' := Aside0.mk (gb_below XB.out hG6 (fun k hk => (XR.out.lt hk).2.1)); have XK' := Aside0.mk (gb_keep hG6 XK.out (XR.out.ne XK.out (by decide))); have HR6 := Aside0.mk hR6; clear hR6 hG6 hO6 hF6)
      (try simp only [Exit.then])
      refine H3.out _ _ (line_tail_a s w g1 _ _ rfl _ (by unfold lineF stV stC; rw [← HK.out]; rfl) _ XK'.out w.heap.size (by rw [HW.out]; exact HR6.out) XB'.out HRL.out)
    · have q3 : (k == 3) = false := beq_eq_false_iff_ne.2 h3
      by_cases h1 : k = 1
      · have q1 : (k == 1) = true := by rw [h1]; rfl
        have HW : Aside0 (rawW s = [[101], A, Lib.itoa s.id, Lib.itoa s.stream, Lib.itoa s.cls, Lib.itoa s.size]) := ⟨by unfold rawW; rw [if_neg (by rw [← HK.out]; exact h2), if_neg (by rw [← HK.out]; exact h3), if_pos (by rw [← HK.out]; exact h1), HA.out]⟩
        clear h1 h2 h3
        go_wp2_with fail
        have z := blk_set HKL.out 0 (.string (tx [101]))
        simp only [List.setIfInBounds_toArray, List.set_cons_zero, List.set_cons_succ] at z
        have hsz : (W3.setCell ⟨gl, 0, none⟩ (.string (tx [101]))).heap.size = W3.heap.size := by simp [World.setCell]
        obtain ⟨gi, hgi⟩ : ∃ g, g = W3.heap.size := ⟨_, rfl⟩
        have R0 := RowV.of_blk (cs := strsV [[101], A]) z HLW.out (by simp [strsV, maxLen])
        have B0 := HB3.out.setCell (p := ⟨gl, 0, none⟩) HLW.out (.string (tx [101]))
        have hn := blk_new (W3.setCell ⟨gl, 0, none⟩ (.string (tx [101]))) (.cells #[.int .i64 s.id, .int .i64 s.stream, .int .i64 s.cls, .int .i64 s.size] 3)
        rw [hsz, ← hgi] at hn
        have HT0 : Aside0 (Tab ((W3.setCell ⟨gl, 0, none⟩ (.string (tx [101]))).alloc (.cells #[.int .i64 s.id, .int .i64 s.stream, .int .i64 s.cls, .int .i64 s.size] 3))) := ⟨hTw.out.below (B0.alloc B0.size _)⟩
        rw [← hgi]
        have HGI := Aside0.mk hgi
        clear hgi
        go_loopw [4, 6, 48] (fun v4 _ v48 wr => LRel s w g1 gi A v4 v48 wr) (fun _ _ v _ => 4 - (intOf v).toNat)
        case atStart => exact ⟨0, rfl, by omega, ⟨R0.alloc _⟩, ⟨(Below.heap_alloc _ _ g1 (by rw [hsz]; exact l1)).trans (stkeep HK1.out h1l 0 _)⟩, ⟨hn⟩, ⟨B0.alloc B0.size _⟩, HT0⟩
        case round =>
          obtain ⟨j, rfl, hj, HR, HK1', HI, HBr, HTr⟩ := hrel
          clear c0 c1 c2 c3 c4 c5 c6 f0 f1 f2 f3 f4 f5 f6 b0 b1 e0 e1 l1 ll z hsz R0 B0 hn HT0 HK1
          by_cases hlt : j < 4
          · have p1 : decide ((j : Int) < 4) = true := decide_eq_true (by omega)
            obtain ⟨m, hm⟩ : ∃ m, m = (fourN s).getD j 0 := ⟨_, rfl⟩
            have hmc : wr.cell? ⟨gi, j, none⟩ = some (.int .i64 m) := by
              rw [blk_cell HI.out j, hm]
              have h4 : j = 0 ∨ j = 1 ∨ j = 2 ∨ j = 3 := by omega
              rcases h4 with rfl | rfl | rfl | rfl <;> rfl
            have hmb : -9223372036854775808 ≤ m ∧ m ≤ 9223372036854775807 := by
              rw [hm]
              have h4 : j = 0 ∨ j = 1 ∨ j = 2 ∨ j = 3 := by omega
              rcases h4 with rfl | rfl | rfl | rfl
              · exact HS.out.p
              · exact HS.out.q
              · exact HS.out.u
              · exact HS.out.v
            have HM := Aside0.mk hm
            clear hm
            go_wp2_with fail
            refine (itoa_any m hmb.1 hmb.2 wr HTr.out).mono ?_
            rintro e w5 ⟨rfl, hb5⟩
            have HW5 := Aside0.mk (fourW_snoc A s j hlt)
            rw [← HM.out] at HW5
            obtain ⟨X, hX⟩ : ∃ X, X = Lib.itoa m := ⟨_, rfl⟩
            rw [← hX] at HW5
            rw [← hX]
            have XR := Aside0.mk ((HR.out.below hb5).alloc (.cells #[.string (tx X)] 9))
            have HB5 := Aside0.mk (HBr.out.trans (hb5.mono HBr.out.size))
            have XB := Aside0.mk (HB5.out.alloc HB5.out.size (.cells #[.string (tx X)] 9))
            have XK := Aside0.mk ((Below.heap_alloc w5 (.cells #[.string (tx X)] 9) g1 (blk_ltI ((hb5.block g1 (blk_ltI HK1'.out)).trans HK1'.out))).trans ((hb5.block g1 (blk_ltI HK1'.out)).trans HK1'.out))
            have XI := Aside0.mk ((Below.heap_alloc w5 (.cells #[.string (tx X)] 9) gi (blk_ltI ((hb5.block gi (blk_ltI HI.out)).trans HI.out))).trans ((hb5.block gi (blk_ltI HI.out)).trans HI.out))
            have HNX := Aside0.mk (new_news w5 [.string (tx X)] 9)
            clear hX hb5 hmc HR
            go_wp2_with (at_builtin; go_loud (refine row_append (w := w5.alloc (.cells #[.string (tx X)] 9)) rfl (.tmp 52) (.tmp 55) 38 rfl 9 Tryd.t9 (.string ByteArray.empty) 1 16 Tryd.underlying38 (by kernel_rfl) rfl rfl rfl (by decide) (by decide) w.heap.size _ (2 + j) (strsV (fourW A s j)) (by rfl) XR.out ⟨w5.heap.size, 0, none⟩ 1 1 [.string (tx X)] (by rfl) rfl HNX.out (by simp [Value.oneCell']) (by simp only [maxLen]; omega) (by omega) XB.out.size ?_); intro v1 w6 hR6 hG6 hO6 hF6; have XB' := Aside0.mk (gb_below XB.out hG6 (fun k hk => (XR.out.lt hk).2.1)); have XK' := Aside0.mk (gb_keep hG6 XK.out (XR.out.ne XK.out (by decide))); have XI' := Aside0.mk (gb_keep hG6 XI.out (XR.out.ne XI.out (by decide))); have HR6 := Aside0.mk hR6; clear hR6 hG6 hO6 hF6)
            refine ⟨⟨j + 1, by simp, by omega, ⟨?_⟩, XK', XI', XB', ⟨hTw.out.below XB'.out⟩⟩, by simp [intOf]; omega⟩
            rw [HW5.out]
            exact HR6.out
          · have p1 : decide ((j : Int) < 4) = false := decide_eq_false (by omega)
            obtain rfl : j = 4 := by omega
            go_wp2_with fail
            (try simp only [Exit.then])
            refine H3.out _ _ (line_tail_a s w g1 _ _ rfl _ (by unfold lineF stV stC; rw [← HK.out]; rfl) _ HK1'.out w.heap.size (by rw [HW.out]; exact HR.out) HBr.out HRL.out)
      · have q1 : (k == 1) = false := beq_eq_false_iff_ne.2 h1
        have HW : Aside0 (rawW s = [[], A]) := ⟨by unfold rawW; rw [if_neg (by rw [← HK.out]; exact h2), if_neg (by rw [← HK.out]; exact h3), if_neg (by rw [← HK.out]; exact h1), HA.out]⟩
        clear h1 h2 h3
        go_wp2_with fail
        (try simp only [Exit.then])
        refine H3.out _ _ (line_tail_a s w g1 _ _ rfl _ (by unfold lineF stV stC; rw [← HK.out]; rfl) _ HK1.out w.heap.size (by rw [HW.out]; exact RowV.of_blk (cs := strsV [[], A]) HKL.out HLW.out (by simp [strsV, maxLen])) HB3.out HRL.out)
end Go.Proofs.YtkjjjgplidompaaDoor.B
