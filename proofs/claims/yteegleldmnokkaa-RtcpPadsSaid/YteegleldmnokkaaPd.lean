/-
  A last part that is padded tells the same without what pads. Walk.
-/
import Derived.Test.YteegleldmnokkaaRv
import Derived.Lib.ConvBytes
import Derived.Deep.OwnRows
namespace Go.Proofs.Yteegleldmnokkaa.B
open Go.RowKit Go.Proofs.YteegleldmnokkaaW.PrintWords Go.Proofs.YteegleldmnokkaaW.PrintLast Go.Proofs.YteegleldmnokkaaW.PrintMore
set_option linter.unusedVariables false
set_option linter.unusedSimpArgs false
def BytesAt (w : World) (g : Nat) (L : List UInt8) : Prop := ∀ j (h : j < L.length), w.cell? ⟨g, j, none⟩ = some (.int .u8 (L[j].toNat : Int)) ∧ w.frozen? ⟨g, j, none⟩ = false
theorem BytesAt.set {w : World} {g : Nat} {L : List UInt8} (h : BytesAt w g L) (i : Nat) (x : UInt8) : BytesAt (w.setCell ⟨g, i, none⟩ (.int .u8 (x.toNat : Int))) g (L.set i x) := by
  intro j hj
  have hj' : j < L.length := by simpa using hj
  obtain ⟨h1, h2⟩ := h j hj'
  refine ⟨?_, ?_⟩
  · by_cases e : i = j
    · subst e
      rw [List.getElem_set_self]
      have hl := World.block_lt_of_cell? w _ h1
      dsimp only at hl
      simp [go_sem, hl, h1]
    · rw [List.getElem_set_ne e, World.cell?_setCell_other w ⟨g, i, none⟩ ⟨g, j, none⟩ _ (by intro h; injection h with _ h; exact e h)]
      exact h1
  · rw [World.frozen?_setCell]
    exact h2
theorem or_32 (c : Nat) (h : c < 32) : bits BinOp.or IntKind.u8 ((128 + c : Nat) : Int) 32 = ((160 + c : Nat) : Int) := by
  have key : ∀ c < 32, bits BinOp.or IntKind.u8 ((128 + c : Nat) : Int) 32 = ((160 + c : Nat) : Int) := by decide
  exact key c h
def padL (k : Nat) : List UInt8 := List.replicate (k - 1) 0 ++ [UInt8.ofNat k]
theorem padL_length {k : Nat} (h : 0 < k) : (padL k).length = k := by simp [padL]; omega
theorem pad_last {k : Nat} (h : 0 < k) : (padL k).getD ((padL k).length - 1) 0 = UInt8.ofNat (padL k).length := by
  rw [padL_length h]
  unfold padL
  rw [List.getD_eq_getElem?_getD, List.getElem?_append_right (by simp), List.length_replicate, Nat.sub_self]
  rfl
theorem made_at (k : Nat) (h : 0 < k) : (madeCells #[Value.int .u8 0] k)[k - 1]? = some (.int .u8 0) := by
  simp [madeCells, show k - 1 < k by omega]
  rw [Nat.mod_one]
  rfl
theorem made_cells (k : Nat) (h : 0 < k) (hk : k < 256) : ((madeCells #[Value.int .u8 0] k).setIfInBounds (k - 1) (.int .u8 (k : Int))).toList = Lib.byteCells (padL k) := by
  obtain ⟨m, rfl⟩ : ∃ m, k = m + 1 := ⟨k - 1, by omega⟩
  simp only [Nat.add_sub_cancel]
  apply List.ext_getElem?
  intro i
  rw [Array.toList_setIfInBounds]
  unfold padL Lib.byteCells
  simp only [Nat.add_sub_cancel, List.map_append, List.map_replicate, List.map_cons, List.map_nil]
  by_cases hi : i < m
  · rw [List.getElem?_set_ne (by omega), List.getElem?_append_left (by simpa using hi)]
    simp [madeCells, hi, Nat.lt_succ_of_lt hi]
    rw [Nat.mod_one]
    rfl
  · by_cases hi2 : i = m
    · subst hi2
      rw [List.getElem?_set_self (by simp [madeCells]), List.getElem?_append_right (by simp)]
      simp
      omega
    · rw [List.getElem?_eq_none (by simp [madeCells]; omega), List.getElem?_eq_none (by simp; omega)]
/-- The bytes that the law asks for, and what they tell. -/
theorem pads_split (l : List P3) (x : P3) (k : Nat) (hl : ∀ y ∈ l, partOk y = true) (hx : partOk x = true) (hk : 4 ≤ k) (hk2 : k ≤ 32) (hk4 : k % 4 = 0) (hb : x.2.2.size + k ≤ 262140) (ht : total l + sizeP x + k ≤ 65536) :
    splitP (tx (allBytes l ++ (UInt8.ofNat (160 + x.1.toNat) :: UInt8.ofNat x.2.1.toNat :: UInt8.ofNat ((x.2.2.size + k) / 4 / 256) :: UInt8.ofNat ((x.2.2.size + k) / 4 % 256) :: (x.2.2.data.toList ++ padL k)))) = (l ++ [x], 0) := by
  obtain ⟨x1, x2, x3⟩ := x
  obtain ⟨a1, a2, a3, a4, a5, a6⟩ := (partOk_iff _).1 hx
  dsimp only at a1 a2 a3 a4 a5 a6 hb ht ⊢
  obtain ⟨c, rfl⟩ := Int.eq_ofNat_of_zero_le a1
  obtain ⟨t, rfl⟩ := Int.eq_ofNat_of_zero_le (show 0 ≤ x2 by omega)
  have hxl : x3.data.toList.length = x3.size := by simp
  have hp := padL_length (k := k) (by omega)
  have H := part_first c t ((x3.size + k) / 4) x3.data.toList (padL k) [] (by omega) (by omega) (by omega) (by omega) (by rw [hxl, hp]; omega) 1 (by omega) (fun h => by omega) (fun _ => ⟨rfl, by omega, by rw [hp]; exact hk4, by omega, pad_last (by omega)⟩)
  rw [List.append_nil, tx_of] at H
  simp only [Int.toNat_natCast]
  have e : 128 + 32 * 1 + c = 160 + c := by omega
  rw [e] at H
  obtain ⟨X, hX⟩ : ∃ X, X = UInt8.ofNat (160 + c) :: UInt8.ofNat t :: UInt8.ofNat ((x3.size + k) / 4 / 256) :: UInt8.ofNat ((x3.size + k) / 4 % 256) :: (x3.data.toList ++ padL k) := ⟨_, rfl⟩
  rw [← hX] at H ⊢
  have hXl : X.length = 4 + x3.size + k := by
    rw [hX]
    simp only [List.length_cons, List.length_append, hxl, hp]
    omega
  simp only [sizeP] at ht
  refine splitP_ok ?_ ?_ ?_
  · rw [tx_size, List.length_append, allBytes_length]; omega
  · rw [tx_size, List.length_append]; omega
  · have h1 : splitR (tx X) = .ok [((c : Int), (t : Int), x3)] := by
      rw [splitR_go (by rw [tx_size]; omega) H.1, H.2.1, H.2.2.1, splitR_empty]
      rfl
    rw [splitR_all l X hl, h1]
    rfl
theorem pads_bytes (l : List P3) (x : P3) (P : List UInt8) (y0 y2 y3 : UInt8) :
    (((allBytes (l ++ [x]) ++ P).set (total l) y0).set (total l + 2) y2).set (total l + 3) y3 = allBytes l ++ (y0 :: UInt8.ofNat x.2.1.toNat :: y2 :: y3 :: (x.2.2.data.toList ++ P)) := by
  rw [allBytes_snoc]
  unfold partBytes
  have hl := allBytes_length l
  rw [← hl]
  generalize allBytes l = A
  rw [List.append_assoc, List.set_append_right _ _ (Nat.le_refl _), Nat.sub_self, List.set_append_right _ _ (by omega), Nat.add_sub_cancel_left, List.set_append_right _ _ (by omega), Nat.add_sub_cancel_left]
  rfl
set_option maxHeartbeats 16000000 in
set_option maxRecDepth 100000 in
theorem rtcpPads_any (A : Option Addr) (len cap : Nat) (n : Int) (w : World) (h1 : len ≤ cap) (h2 : cap ≤ maxLen)
    (h3 : ∀ i, i < len → ∃ (ad : Addr) (c0 : Int) (c1 : Int) (c2 : ByteArray), A = some ad ∧ w.cell? (ad.add (i * 3 + 0)) = some (.int .i64 c0) ∧ I64 c0 ∧ w.cell? (ad.add (i * 3 + 1)) = some (.int .i64 c1) ∧ I64 c1 ∧ w.cell? (ad.add (i * 3 + 2)) = some (.string c2) ∧ c2.size ≤ maxLen) (hn : I64 n) :
    Calls Try.prog 6 #[.slice A len cap, .int .i64 n] w fun e w' => e = .returned (.bool true) ∧ Below w.heap.size w w' := by
  obtain ⟨l, rfl, hP, hS⟩ := parts_in h3
  have HL := Aside0.mk (small_len (Nat.le_trans h1 h2))
  have HP := Aside0.mk hP
  have HS := Aside0.mk hS
  have HB0 := Aside0.mk (Below.refl w.heap.size w)
  clear h3 hP hS
  go_enter Try.func6, Try.ntmps6
  go_wp2_with fail
  refine (large_any A cap l w HL.out HP.out HS.out).mono ?_
  rintro e w1 ⟨b, rfl, hb, hw1⟩
  obtain rfl := hw1.symm
  cases b with
  | true =>
    clear hb
    go_wp2_with fail
    refine (wakes_any w).mono ?_
    rintro e wz ⟨rfl, hBz⟩
    have HBw := Aside0.mk (HB0.out.trans (hBz.mono HB0.out.size))
    clear hBz
    go_wp2_with fail
    go_ret
    exact ⟨rfl, HBw.out⟩
  | false =>
    obtain ⟨s1, s2, s3⟩ := hb rfl
    have HS1 := Aside0.mk s1
    have HS2 := Aside0.mk s2
    have HS3 := Aside0.mk s3
    clear s1 s2 s3 hb
    rcases List.eq_nil_or_concat l with rfl | ⟨l0, x, hlx⟩
    · go_wp2_with fail
      refine (wakes_any w).mono ?_
      rintro e wz ⟨rfl, hBz⟩
      have HBw := Aside0.mk (HB0.out.trans (hBz.mono HB0.out.size))
      clear hBz
      go_wp2_with fail
      go_ret
      exact ⟨rfl, HBw.out⟩
    rw [List.concat_eq_append] at hlx
    have hll : l.length = l0.length + 1 := by rw [hlx]; simp
    have dl : ((l.length : Int) == 0) = false := beq_eq_false_iff_ne.2 (by omega)
    have HLX := Aside0.mk hlx
    have hN0 : 0 < l.length := by omega
    have hN3 : l.length ≤ 300 := HS1.out
    have HLL : Aside0 (l0.length = l.length - 1) := ⟨by omega⟩
    have i0 : (0 : Int) ≤ (l.length : Int) - 1 := by omega
    have i1 : (l.length : Int) - 1 < (l.length : Int) := by omega
    have hu : 0 ≤ IntKind.u64.wrap n := by rw [IntKind.wrap_u64]; omega
    obtain ⟨K, hK, eK⟩ : ∃ K : Nat, (4 ≤ K ∧ K ≤ 32 ∧ K % 4 = 0) ∧ wrap64 (4 * wrap64 (1 + wrap64 ((IntKind.u64.wrap n).tmod 8))) = (K : Int) := by
      generalize IntKind.u64.wrap n = u at hu ⊢
      rw [Int.tmod_eq_emod_of_nonneg hu]
      refine ⟨(4 * (1 + u % 8)).toNat, by omega, ?_⟩
      have e1 : wrap64 (u % 8) = u % 8 := by unfold wrap64; omega
      have e2 : wrap64 (1 + u % 8) = 1 + u % 8 := by unfold wrap64; omega
      rw [e1, e2]
      unfold wrap64
      omega
    obtain ⟨k4, k32, km⟩ := hK
    clear hlx hll hu
    go_wp2_with fail
    refine (few_any A cap l w (by omega) h1 HP.out).mono ?_
    rintro e w2 ⟨v, rfl, hR, hB2⟩
    obtain ⟨A2, c2, rfl, hP2, hc2, hm2⟩ := of_row_ hR
    have HP2 := Aside0.mk hP2
    have HB2 := Aside0.mk hB2
    clear hR hP2 hB2
    go_wp2_with fail
    refine (join_any A2 c2 l w2 HL.out HP2.out HS.out).mono ?_
    rintro e w3 ⟨rfl, hB3⟩
    have hjs := join_size l
    obtain ⟨J1, hJ1⟩ : ∃ J, J = (joinP l).1 := ⟨_, rfl⟩
    obtain ⟨J2, hJ2⟩ : ∃ J, J = (joinP l).2 := ⟨_, rfl⟩
    rw [← hJ1] at hjs ⊢
    rw [← hJ2]
    have HJ1 := Aside0.mk hJ1
    have HJ2 := Aside0.mk hJ2
    have HB3 := Aside0.mk (HB2.out.trans (hB3.mono HB2.out.size))
    have hPw := HP.out.below HB3.out
    obtain ⟨x1, x2, x3⟩ := x
    have hgx : l[l.length - 1]? = some (x1, x2, x3) := by
      rw [← HLL.out]
      conv => lhs; rw [HLX.out]
      rw [List.getElem?_append_right (Nat.le_refl _), Nat.sub_self]
      rfl
    obtain ⟨ad, hA, t0, t1, t2⟩ := hPw (l.length - 1) _ hgx
    dsimp only at t0 t1 t2
    subst hA
    have hz3 := HS2.out _ (List.mem_of_getElem? hgx)
    dsimp only at hz3
    clear hB3 hJ1 hJ2 HP2 hc2 hm2 hPw hgx
    have HBa := Aside0.mk (HB3.out.alloc (o := .cells #[.int .i64 x1, .int .i64 x2, .string x3] 40) HB3.out.size)
    by_cases hJ : J2 = 0
    · have hsj := split_join l J1 (Prod.ext HJ1.out.symm (HJ2.out.symm.trans hJ))
      have hJs : J1.size = total l := by rw [hsj.2.1, tx_size, allBytes_length]
      have htl : total l = total l0 + (4 + x3.size) := by
        rw [HLX.out, total_snoc]
        rfl
      have HJX := Aside0.mk hsj.2.1
      have HOK := Aside0.mk hsj.2.2.1
      have HTL := Aside0.mk htl
      have HJS := Aside0.mk hJs
      have q0 : (J2 != 0) = false := by rw [hJ]; rfl
      have q3 : decide ((J1.size : Int) < (x3.size : Int) + 4) = false := decide_eq_false (by omega)
      clear hJ hsj hJs htl
      by_cases zA : 262140 < x3.size + K
      · have q1 : decide (262140 < (x3.size : Int) + (K : Int)) = true := decide_eq_true (by omega)
        go_wp2_with fail
        refine (wakes_any _).mono ?_
        rintro e wz ⟨rfl, hBz⟩
        have HBw := Aside0.mk (HBa.out.trans (hBz.mono HBa.out.size))
        clear hBz
        go_wp2_with fail
        go_ret
        exact ⟨rfl, HBw.out⟩
      · have q1 : decide (262140 < (x3.size : Int) + (K : Int)) = false := decide_eq_false (by omega)
        by_cases zB : 65536 < J1.size + K
        · have q2 : decide (65536 < (J1.size : Int) + (K : Int)) = true := decide_eq_true (by omega)
          go_wp2_with fail
          refine (wakes_any _).mono ?_
          rintro e wz ⟨rfl, hBz⟩
          have HBw := Aside0.mk (HBa.out.trans (hBz.mono HBa.out.size))
          clear hBz
          go_wp2_with fail
          go_ret
          exact ⟨rfl, HBw.out⟩
        · have q2 : decide (65536 < (J1.size : Int) + (K : Int)) = false := decide_eq_false (by omega)
          have hmk : ∀ w, (Instr.makeSlice 41 (.int .i64 (K : Int)) (.int .i64 (K : Int))).run Try.prog w = .ok (.slice (some ⟨w.heap.size, 0, none⟩) K K) (w.alloc (.cells (madeCells #[.int .u8 0] K) 5)) := fun w => run_make_row' 41 5 (.int .u8 0) 1 Try.underlying41 (by kernel_rfl) rfl .i64 .i64 K (by omega) (by omega) w
          have p0 : (0 : Int) ≤ (K : Int) - 1 := by omega
          have p1 : (K : Int) - 1 < (K : Int) := by omega
          have p2 : IntKind.u8.wrap (K : Int) = (K : Int) := by
            rw [show IntKind.u8.wrap (K : Int) = (K : Int) % 256 by simp [IntKind.wrap, IntKind.signed, IntKind.bits]]
            omega
          have p3 : (K : Int) % 256 = (K : Int) := by omega
          have p4 := made_at K (by omega)
          go_upto_region 12 with fail
          obtain ⟨g8, hg8⟩ : ∃ g, g = w3.heap.size := ⟨_, rfl⟩
          obtain ⟨gp, hgp⟩ : ∃ g, g = g8 + 1 := ⟨_, rfl⟩
          have K8 : ((w3.alloc (.cells #[.int .i64 x1, .int .i64 x2, .string x3] 40)).alloc (.cells ((madeCells #[.int .u8 0] K).setIfInBounds (K - 1) (.int .u8 (K : Int))) 5)).heap[g8]? = some (.cells #[.int .i64 x1, .int .i64 x2, .string x3] 40 (0, 0)) := by
            rw [hg8]
            exact (Below.heap_alloc _ _ _ (by simp)).trans (blk_new w3 _)
          have KP : ((w3.alloc (.cells #[.int .i64 x1, .int .i64 x2, .string x3] 40)).alloc (.cells ((madeCells #[.int .u8 0] K).setIfInBounds (K - 1) (.int .u8 (K : Int))) 5)).heap[gp]? = some (.cells ((madeCells #[.int .u8 0] K).setIfInBounds (K - 1) (.int .u8 (K : Int))) 5 (0, 0)) := by
            have h := blk_new (w3.alloc (.cells #[.int .i64 x1, .int .i64 x2, .string x3] 40)) (.cells ((madeCells #[.int .u8 0] K).setIfInBounds (K - 1) (.int .u8 (K : Int))) 5)
            rw [hgp, hg8]
            simpa using h
          have HBp := Aside0.mk (HBa.out.alloc (o := .cells ((madeCells #[.int .u8 0] K).setIfInBounds (K - 1) (.int .u8 (K : Int))) 5) HBa.out.size)
          rw [← hg8, ← hgp]
          generalize (w3.alloc (.cells #[.int .i64 x1, .int .i64 x2, .string x3] 40)).alloc (.cells ((madeCells #[.int .u8 0] K).setIfInBounds (K - 1) (.int .u8 (K : Int))) 5) = WP at *
          have hcp : ∀ j (hj : j < (padL K).length), WP.cell? ((⟨gp, 0, none⟩ : Addr).add j) = some (.int .u8 ((padL K)[j].toNat : Int)) := by
            intro j hj
            rw [Addr.add_lit, Nat.zero_add, blk_cell KP j, ← Array.getElem?_toList, made_cells K (by omega) (by omega)]
            simp [Lib.byteCells, List.getElem?_eq_getElem hj]
          have hc1 : (convert 41 9 (.slice (some ⟨gp, 0, none⟩) K K)).run Try.prog WP = .ok (.string (tx (padL K))) WP := by
            have h := run_convert_bytes_back WP 41 9 5 ⟨gp, 0, none⟩ K (padL K) Try.underlying41 Try.underlying5 Try.underlying9 hcp
            rw [padL_length (by omega)] at h
            exact h
          have hc2 := Lib.run_convert_string_bytes (P := Try.prog) WP 9 41 5 (J1 ++ tx (padL K)) Try.underlying9 Try.underlying41 Try.underlying5
          have hcat : ¬ 9223372036854775807 < J1.size + (padL K).length := by rw [padL_length (by omega)]; omega
          clear hg8 hgp
          go_upto_region 13 with fail
          obtain ⟨L, hL⟩ : ∃ L, L = allBytes l ++ padL K := ⟨_, rfl⟩
          have hJL : J1 ++ tx (padL K) = tx L := by
            rw [hL, HJX.out]
            apply ByteArray.ext
            simp [tx]
          have hLl : L.length = J1.size + K := by rw [hL, List.length_append, allBytes_length, padL_length (by omega), HJS.out]
          obtain ⟨gb, hgb⟩ : ∃ g, g = WP.heap.size := ⟨_, rfl⟩
          rw [hJL, ← hgb]
          have HBY : BytesAt (Lib.bytesWorld WP 5 (tx L)) gb L := by
            intro j hj
            have hsz := tx_size L
            refine ⟨?_, ?_⟩
            · rw [hgb, Lib.bytesWorld_cell WP 5 (tx L) j (by rw [hsz]; exact hj)]
              simp [List.getD_eq_getElem?_getD, List.getElem?_eq_getElem hj]
            · have h := Lib.bytesWorld_at_new WP 5 (tx L)
              rw [← hgb] at h
              have hb : j < (Lib.bytesCells WP 5 (tx L)).size := by
                have h2 := Lib.bytesWorld_cell WP 5 (tx L) j (by rw [hsz]; exact hj)
                rw [← hgb] at h2
                unfold World.cell? at h2
                rw [h] at h2
                simp only at h2
                rcases Nat.lt_or_ge j (Lib.bytesCells WP 5 (tx L)).size with h3 | h3
                · exact h3
                · rw [Array.getElem?_eq_none h3] at h2; cases h2
              unfold World.frozen?
              rw [h]
              simp
              omega
          have K8b : (Lib.bytesWorld WP 5 (tx L)).heap[g8]? = some (.cells #[.int .i64 x1, .int .i64 x2, .string x3] 40 (0, 0)) := (Lib.bytesWorld_at_old WP 5 (tx L) g8 (blk_lt K8)).trans K8
          have HBb : Below w.heap.size w (Lib.bytesWorld WP 5 (tx L)) :=
            ⟨HBp.out.os, HBp.out.tape, HBp.out.output, by rw [Lib.bytesWorld_size]; have := HBp.out.size; omega, fun k hk => (Lib.bytesWorld_at_old WP 5 (tx L) k (Nat.lt_of_lt_of_le hk HBp.out.size)).trans (HBp.out.block k hk)⟩
          have hgbw : w.heap.size ≤ gb := by rw [hgb]; exact HBp.out.size
          have hg8n : g8 ≠ gb := by have := blk_lt K8; omega
          try rw [show (tx L).size = L.length from tx_size L]
          try rw [show J1.size + (padL K).length = L.length by rw [hLl, padL_length (by omega)]]
          generalize Lib.bytesWorld WP 5 (tx L) = WB at *
          generalize grownCap WP _ 0 5 = CB
          obtain ⟨⟨b1, b2, b3, b4, b5, b6⟩⟩ : Aside0 (0 ≤ x1 ∧ x1 ≤ 31 ∧ 192 ≤ x2 ∧ x2 ≤ 223 ∧ x3.size % 4 = 0 ∧ x3.size ≤ 262140) := ⟨(partOk_iff _).1 (HOK.out (x1, x2, x3) (by rw [HLX.out]; simp))⟩
          obtain ⟨c, hc⟩ := Int.eq_ofNat_of_zero_le b1
          obtain ⟨AT, hAT⟩ : ∃ a, a = total l0 := ⟨_, rfl⟩
          obtain ⟨W, hW⟩ : ∃ a, a = (x3.size + K) / 4 := ⟨_, rfl⟩
          obtain ⟨y0, hy0⟩ : ∃ y : UInt8, y = UInt8.ofNat (160 + c) := ⟨_, rfl⟩
          obtain ⟨y2, hy2⟩ : ∃ y : UInt8, y = UInt8.ofNat (W / 256) := ⟨_, rfl⟩
          obtain ⟨y3, hy3⟩ : ∃ y : UInt8, y = UInt8.ofNat (W % 256) := ⟨_, rfl⟩
          have eAT : (J1.size : Int) - (x3.size : Int) - 4 = (AT : Int) := by have := HTL.out; have := HJS.out; omega
          have eW : ((x3.size : Int) + (K : Int)) / 4 = (W : Int) := by omega
          have hLA : AT + 4 + x3.size + K = L.length := by have := HTL.out; have := HJS.out; omega
          have hLe : L = allBytes l0 ++ (UInt8.ofNat (128 + c) :: UInt8.ofNat x2.toNat :: UInt8.ofNat (x3.size / 4 / 256) :: UInt8.ofNat (x3.size / 4 % 256) :: (x3.data.toList ++ padL K)) := by
            rw [hL, HLX.out, allBytes_snoc, List.append_assoc]
            unfold partBytes
            rw [hc]
            rfl
          have ca : WB.cell? ⟨gb, AT, none⟩ = some (.int .u8 ((128 + c : Nat) : Int)) := by
            rw [(HBY AT (by omega)).1]
            have : L[AT]? = some (UInt8.ofNat (128 + c)) := by
              rw [hLe, List.getElem?_append_right (by rw [allBytes_length, hAT]; exact Nat.le_refl _), allBytes_length, hAT, Nat.sub_self]
              rfl
            rw [List.getElem?_eq_getElem (by omega)] at this
            injection this with this
            rw [this, u8_nat _ (by omega)]
          have fa := (HBY AT (by omega)).2
          have cb := (HBY (AT + 2) (by omega)).1
          have fb := (HBY (AT + 2) (by omega)).2
          have cd := (HBY (AT + 3) (by omega)).1
          have fd := (HBY (AT + 3) (by omega)).2
          obtain ⟨vb, hvb⟩ : ∃ v, v = ((L[AT + 2]'(by omega)).toNat : Int) := ⟨_, rfl⟩
          obtain ⟨vd, hvd⟩ : ∃ v, v = ((L[AT + 3]'(by omega)).toNat : Int) := ⟨_, rfl⟩
          rw [← hvb] at cb
          rw [← hvd] at cd
          have eo : bits BinOp.or IntKind.u8 ((128 + c : Nat) : Int) 32 = (y0.toNat : Int) := by rw [or_32 c (by omega), hy0, u8_nat _ (by omega)]
          obtain ⟨V0, hV0⟩ : ∃ v, v = 128 + c := ⟨_, rfl⟩
          rw [← hV0] at ca eo
          have w8 : ∀ x : Int, 0 ≤ x → IntKind.u8.wrap x = ((UInt8.ofNat x.toNat).toNat : Int) := fun x hx => by
            rw [show IntKind.u8.wrap x = x % 256 by simp [IntKind.wrap, IntKind.signed, IntKind.bits], UInt8.toNat_ofNat']
            omega
          have e2 : IntKind.u8.wrap ((W : Int) / 256) = (y2.toNat : Int) := by
            rw [w8 _ (by omega), hy2, show ((W : Int) / 256).toNat = W / 256 by omega]
          have e3 : IntKind.u8.wrap (W : Int) = (y3.toNat : Int) := by
            rw [w8 _ (by omega), hy3, Int.toNat_natCast, UInt8.toNat_ofNat', UInt8.toNat_ofNat']
            omega
          have r0 : (AT : Int) < (L.length : Int) := by omega
          have r1 : (0 : Int) ≤ (AT : Int) + 2 := by omega
          have r2 : (AT : Int) + 2 < (L.length : Int) := by omega
          have r3 : (0 : Int) ≤ (AT : Int) + 3 := by omega
          have r4 : (AT : Int) + 3 < (L.length : Int) := by omega
          have u0 := blk_cell K8b 0
          have u2 := blk_cell K8b 2
          simp only [List.getElem?_toArray, List.getElem?_cons_zero, List.getElem?_cons_succ] at u0 u2
          have HLE := Aside0.mk hLe
          have HCC := Aside0.mk hc
          have HATT := Aside0.mk hAT
          have HWW := Aside0.mk hW
          have HYY := Aside0.mk (And.intro hy0 (And.intro hy2 hy3))
          have HLL2 := Aside0.mk hL
          have HBY2 := Aside0.mk HBY
          have HBB := Aside0.mk HBb
          have HLA := Aside0.mk hLA
          clear hc hAT hW hy0 hy2 hy3 hLe hL hvb hvd hV0 w8 HBY K8b hJL hLl hgb hcp hc1 hc2 K8 KP hLA
          go_upto_region 17 with fail
          have hB2 := ((HBY2.out.set AT y0).set (AT + 2) y2).set (AT + 3) y3
          have HBc := Aside0.mk (((HBB.out.setCell (p := ⟨gb, AT, none⟩) hgbw (.int .u8 (y0.toNat : Int))).setCell (p := ⟨gb, AT + 2, none⟩) hgbw (.int .u8 (y2.toNat : Int))).setCell (p := ⟨gb, AT + 3, none⟩) hgbw (.int .u8 (y3.toNat : Int)))
          generalize ((WB.setCell ⟨gb, AT, none⟩ (.int .u8 (y0.toNat : Int))).setCell ⟨gb, AT + 2, none⟩ (.int .u8 (y2.toNat : Int))).setCell ⟨gb, AT + 3, none⟩ (.int .u8 (y3.toNat : Int)) = WC at *
          obtain ⟨L2, hL2⟩ : ∃ M, M = ((L.set AT y0).set (AT + 2) y2).set (AT + 3) y3 := ⟨_, rfl⟩
          rw [← hL2] at hB2
          have hL2l : L2.length = L.length := by rw [hL2]; simp
          have hb6 : x3.size + K ≤ 262140 := by omega
          have hsp : splitP (tx L2) = (l, 0) := by
            have hok := HOK.out
            have h := pads_split l0 (x1, x2, x3) K (fun y hy => hok y (by rw [HLX.out]; exact List.mem_append_left _ hy)) (hok _ (by rw [HLX.out]; simp)) k4 k32 km hb6 (by have := HTL.out; have := HJS.out; simp only [sizeP]; omega)
            rw [← HLX.out] at h
            rw [← h, hL2, HLL2.out, HATT.out]
            conv => lhs; rw [HLX.out]
            rw [pads_bytes, HYY.out.1, HYY.out.2.1, HYY.out.2.2, HWW.out, HCC.out, Int.toNat_natCast]
          have hc3 : (convert 41 9 (.slice (some ⟨gb, 0, none⟩) L.length CB)).run Try.prog WC = .ok (.string (tx L2)) WC := by
            rw [← hL2l]
            refine run_convert_bytes_back WC 41 9 5 ⟨gb, 0, none⟩ CB L2 Try.underlying41 Try.underlying5 Try.underlying9 (fun j hj => ?_)
            rw [Addr.add_lit, Nat.zero_add]
            exact (hB2 j hj).1
          have HSP := Aside0.mk hsp
          have hTs : (tx L2).size ≤ 1000000 := by rw [tx_size, hL2l]; have := HLA.out; omega
          obtain ⟨T, hT⟩ : ∃ T, T = tx L2 := ⟨_, rfl⟩
          rw [← hT] at hc3 HSP hTs
          clear hsp hT hL2 hB2 ca cb cd fa fb fd u0 u2
          go_wp2_with fail
          refine (split_any T WC hTs).mono ?_
          rintro e w6 ⟨v_, rfl, hR_, hB_⟩
          rw [HSP.out] at hR_ ⊢
          dsimp only at hR_ ⊢
          obtain ⟨A6, c6, rfl, hP_, hc6, hm6⟩ := of_row_ hR_
          have HP6 := Aside0.mk hP_
          have HB6 := Aside0.mk (HBc.out.trans (hB_.mono HBc.out.size))
          clear hR_ hB_ hP_
          go_wp2_with fail
          refine (parts_any A6 (some ad) c6 cap l l w6 HL.out HL.out HP6.out (HP.out.below HB6.out)).mono ?_
          rintro e w9 ⟨rfl, hD9⟩
          rw [decide_eq_true (rfl : l = l)]
          have HB9 := Aside0.mk (below_drawn HB6.out hD9)
          clear hD9
          go_wp2_with fail
          refine (wakes_any w9).mono ?_
          rintro e wz ⟨rfl, hBz⟩
          have HBw := Aside0.mk (HB9.out.trans (hBz.mono HB9.out.size))
          clear hBz
          go_wp2_with fail
          go_ret
          exact ⟨rfl, HBw.out⟩
    · have q0 : (J2 != 0) = true := by simp [hJ]
      clear hJ
      go_wp2_with fail
      refine (wakes_any _).mono ?_
      rintro e wz ⟨rfl, hBz⟩
      have HBw := Aside0.mk (HBa.out.trans (hBz.mono HBa.out.size))
      clear hBz
      go_wp2_with fail
      go_ret
      exact ⟨rfl, HBw.out⟩
end Go.Proofs.Yteegleldmnokkaa.B
