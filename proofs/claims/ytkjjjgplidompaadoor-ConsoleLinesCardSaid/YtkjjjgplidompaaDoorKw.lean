/-
  What is told, as a line: the program's way. Walk.
-/
import Derived.Test.YtkjjjgplidompaaDoorKv
namespace Go.Proofs.YtkjjjgplidompaaDoor.B
open Go.RowKit Go.Proofs.YtkjjjgplidompaaDoorW.PrintWords Go.Proofs.YtkjjjgplidompaaDoorW.PrintLast Go.Proofs.YtkjjjgplidompaaDoorW.PrintMore
set_option linter.unusedVariables false
set_option linter.unusedSimpArgs false
theorem join_row {w : World} {base : Nat} {v : Value} {L : List (List UInt8)} (hR : RowV w base 9 1 v L.length (strsV L)) (h0 : 0 < L.length) (hn : L.length ≤ 10000) (hl : (Lib.join L [32]).length ≤ 900000) : ∃ rg ro c, v = .slice (some ⟨rg, ro, none⟩) L.length c ∧ Calls Tryd.prog 24 #[.slice (some ⟨rg, ro, none⟩) L.length c, .string (tx [32])] w fun e w' => e = .returned (.string (tx (Lib.join L [32]))) ∧ Below w.heap.size w w' := by
  obtain ⟨rg, ro, c, rfl, _, hnc, _, hcell⟩ := hR.some_ h0
  have hrl : rg < w.heap.size := by
    have h0 := hcell 0 ((strsV L)[0]'(by rw [strsV_length]; exact h0)) (by rw [List.getElem?_eq_getElem])
    exact World.block_lt_of_cell? w _ h0
  have HJ := Tryd.strings_Join rg ro c (L.map tx) (tx [32]) w (fun j x hx => by
    refine hcell j _ ?_
    rw [List.getElem?_map] at hx
    unfold strsV
    rw [List.getElem?_map]
    cases hh : L[j]? with
    | none => rw [hh] at hx; cases hx
    | some y => rw [hh] at hx; simp at hx ⊢; exact hx) hrl (by rw [List.length_map]; omega) (by rw [List.length_map]; exact hnc) (by rw [strs_map, tx_data]; omega)
  rw [strs_map, tx_data, List.length_map] at HJ
  refine ⟨rg, ro, c, rfl, HJ.mono ?_⟩
  rintro e w' ⟨rfl, hb⟩
  exact ⟨rfl, hb⟩
theorem nineW_len (T : LTold) (k : Nat) (h : k ≤ 9) : (nineW T k).length = k := by simp [nineW, nineN]; omega
theorem nineW_snoc (T : LTold) (k : Nat) (h : k < 9) : strsV (nineW T (k + 1)) = strsV (nineW T k) ++ [.string (tx (Lib.itoa ((nineN T).getD k 0)))] := by
  rw [← strsV_snoc]
  congr 1
  have h9 : k = 0 ∨ k = 1 ∨ k = 2 ∨ k = 3 ∨ k = 4 ∨ k = 5 ∨ k = 6 ∨ k = 7 ∨ k = 8 := by omega
  rcases h9 with rfl | rfl | rfl | rfl | rfl | rfl | rfl | rfl | rfl <;> rfl
theorem outW_snoc (T : LTold) (i : Nat) : strsV (outW T (i + 1)) = strsV (outW T i) ++ [.string (tx [111]), .string (tx (Lib.itoa (T.f (i * 7)))), .string (tx (Lib.itoa (T.f (i * 7 + 4))))] := by
  rw [outW, strsV_append]; rfl
theorem drW_snoc (T : LTold) (i : Nat) : strsV (drW T (i + 1)) = strsV (drW T i) ++ [.string (tx [100]), .string (tx (Lib.itoa (T.h i)))] := by
  rw [drW, strsV_append]; rfl
/-- The list so far, and what is told. -/
def TellC (T : LTold) (A : Option Addr) (cO : Nat) (B : Option Addr) (cD : Nat) (g1 : Nat) (w : World) (v : Value) (n : Nat) (L : List Value) (w' : World) : Prop := RowV w' w.heap.size 9 1 v n L ∧ TellIn T A cO B cD g1 w w'
theorem tc_b {T : LTold} {A : Option Addr} {cO : Nat} {B : Option Addr} {cD : Nat} {g1 : Nat} {w0 w w' : World} {v : Value} {n : Nat} {L : List Value} (h : Aside0 (TellC T A cO B cD g1 w0 v n L w)) (hb : Below w.heap.size w w') : Aside0 (TellC T A cO B cD g1 w0 v n L w') := ⟨h.out.1.below hb, (ti_b ⟨h.out.2⟩ hb).out⟩
theorem tc_grow {T : LTold} {A : Option Addr} {cO : Nat} {B : Option Addr} {cD : Nat} {g1 : Nat} {w0 w w' : World} {v v' : Value} {n n' : Nat} {L L' : List Value} (h : Aside0 (TellC T A cO B cD g1 w0 v n L w)) (hA : IntsAt w0 A (T.no * 7) T.f) (hB : IntsAt w0 B T.nd T.h) (hG : w.grownBy w' v.ownBlock) (hR : RowV w' w0.heap.size 9 1 v' n' L') : Aside0 (TellC T A cO B cD g1 w0 v' n' L' w') := by
  have hb := gb_below h.out.2.bel hG (fun k hk => (h.out.1.lt hk).2.1)
  exact ⟨hR, gb_keep hG h.out.2.blk (h.out.1.ne h.out.2.blk (by decide)), hb, hA.below hb, hB.below hb⟩
theorem tc_tab {T : LTold} {A : Option Addr} {cO : Nat} {B : Option Addr} {cD : Nat} {g1 : Nat} {w0 w : World} {v : Value} {n : Nat} {L : List Value} (h : Aside0 (TellC T A cO B cD g1 w0 v n L w)) (hT : Aside0 (Tab w0)) : Tab w := hT.out.below h.out.2.bel
theorem itoa_I {n : Int} (h : I64 n) (w : World) (hT : Tab w) : Calls Tryd.prog 23 #[.int .i64 n] w fun e w' => e = .returned (.string (tx (Lib.itoa n))) ∧ Below w.heap.size w w' := itoa_any n h.1 h.2 w hT
theorem balloc (w : World) (o : Obj) : Below w.heap.size w (w.alloc o) := (Below.refl _ w).alloc (Nat.le_refl _) _
theorem outs7 {w : World} {A : Option Addr} {no : Nat} {f : Nat → Int} {i : Nat} (h : IntsAt w A (no * 7) f) (hi : i < no) : ∃ ad, A = some ad ∧ w.cell? (ad.add (i * 7)) = some (.int .i64 (f (i * 7))) ∧ w.cell? ⟨(ad.add (i * 7)).block, (ad.add (i * 7)).off + 1, none⟩ = some (.int .i64 (f (i * 7 + 1))) ∧ w.cell? ⟨(ad.add (i * 7)).block, (ad.add (i * 7)).off + 2, none⟩ = some (.int .i64 (f (i * 7 + 2))) ∧ w.cell? ⟨(ad.add (i * 7)).block, (ad.add (i * 7)).off + 3, none⟩ = some (.int .i64 (f (i * 7 + 3))) ∧ w.cell? ⟨(ad.add (i * 7)).block, (ad.add (i * 7)).off + 4, none⟩ = some (.int .i64 (f (i * 7 + 4))) ∧ w.cell? ⟨(ad.add (i * 7)).block, (ad.add (i * 7)).off + 5, none⟩ = some (.int .i64 (f (i * 7 + 5))) ∧ w.cell? ⟨(ad.add (i * 7)).block, (ad.add (i * 7)).off + 6, none⟩ = some (.int .i64 (f (i * 7 + 6))) := by
  obtain ⟨ad, e, o0⟩ := h (i * 7) (by omega)
  have g : ∀ j, 0 < j → j < 7 → w.cell? ⟨(ad.add (i * 7)).block, (ad.add (i * 7)).off + j, none⟩ = some (.int .i64 (f (i * 7 + j))) := by
    intro j h0 hj
    obtain ⟨ad', e', o⟩ := h (i * 7 + j) (by omega)
    rw [e] at e'
    cases e'
    rw [add_field7 _ _ j (by omega)] at o
    exact o
  exact ⟨ad, e, o0, g 1 (by omega) (by omega), g 2 (by omega) (by omega), g 3 (by omega) (by omega), g 4 (by omega) (by omega), g 5 (by omega) (by omega), g 6 (by omega) (by omega)⟩
def CNRel (T : LTold) (A : Option Addr) (cO : Nat) (B : Option Addr) (cD : Nat) (g1 gi : Nat) (w : World) (v3 v30 : Value) (wr : World) : Prop := ∃ k : Nat, v30 = .int .i64 k ∧ k ≤ 9 ∧ Aside0 (TellC T A cO B cD g1 w v3 k (strsV (nineW T k)) wr) ∧ Aside0 (wr.heap[gi]? = some (.cells #[.int .i64 T.a0, .int .i64 T.a1, .int .i64 T.a2, .int .i64 T.a3, .int .i64 T.a4, .int .i64 T.a5, .int .i64 T.a6, .int .i64 T.a7, .int .i64 T.a8] 2 (0, 0)))
def CORel (T : LTold) (A : Option Addr) (cO : Nat) (B : Option Addr) (cD : Nat) (g1 : Nat) (w : World) (v3 v43 : Value) (wr : World) : Prop := ∃ i : Nat, v43 = .int .i64 i ∧ i ≤ T.no ∧ Aside0 (TellC T A cO B cD g1 w v3 (9 + 3 * i) (strsV (outW T i)) wr)
def CDRel (T : LTold) (A : Option Addr) (cO : Nat) (B : Option Addr) (cD : Nat) (g1 : Nat) (w : World) (v3 v61 : Value) (wr : World) : Prop := ∃ j : Nat, v61 = .int .i64 j ∧ j ≤ T.nd ∧ Aside0 (TellC T A cO B cD g1 w v3 (9 + 3 * T.no + 2 * j) (strsV (drW T j)) wr)
set_option maxHeartbeats 4000000 in
set_option maxRecDepth 100000 in
theorem ctell_any (T : LTold) (A : Option Addr) (cO : Nat) (B : Option Addr) (cD : Nat) (w : World) (hT : Tab w) (hI : ToI T) (hO : T.no ≤ cO) (hcO : cO ≤ maxLen) (hD : T.nd ≤ cD) (hcD : cD ≤ maxLen) (hA : IntsAt w A (T.no * 7) T.f) (hB : IntsAt w B T.nd T.h) : Calls Tryd.prog 13 #[.agg (toC T A cO B cD)] w (TellPost T w) := by
  have HI := Aside0.mk hI
  have HTw := Aside0.mk hT
  have HIA := Aside0.mk hA
  have HIB := Aside0.mk hB
  have h600 : T.no ≤ 300 ∧ T.nd ≤ 300 := ⟨hI.no, hI.nd⟩
  clear hI hT
  go_enter Tryd.func13, Tryd.ntmps13
  unfold toC
  refine wp_seq_k (fun K1 h1 => ?_)
  have H1 := Aside0.mk h1
  clear h1
  go_wp2_with fail
  (try simp only [Exit.then])
  refine H1.out _ _ ?_
  clear H1
  obtain ⟨g1, hg1⟩ : ∃ g, g = w.heap.size := ⟨_, rfl⟩
  obtain ⟨W1, hW1⟩ : ∃ W1, W1 = w.alloc (.cells #[.int .i64 T.a0, .int .i64 T.a1, .int .i64 T.a2, .int .i64 T.a3, .int .i64 T.a4, .int .i64 T.a5, .int .i64 T.a6, .int .i64 T.a7, .int .i64 T.a8, .slice A T.no cO, .slice B T.nd cD] 43) := ⟨_, rfl⟩
  have HT : Aside0 (TellIn T A cO B cD g1 w W1) := by
    have hb : Below w.heap.size w W1 := by rw [hW1]; exact (Below.refl _ w).alloc (Nat.le_refl _) _
    exact ⟨by rw [hW1, hg1]; exact blk_new w _, hb, hA.below hb, hB.below hb⟩
  rw [← hg1, ← hW1]
  obtain ⟨c0, c1, c2, c3, c4, c5, c6, c7, c8, c9, c10⟩ := toCells HT.out.blk
  clear hg1 hW1 hA hB
  go_wp2_with fail
  obtain ⟨gi, hgi⟩ : ∃ g, g = W1.heap.size := ⟨_, rfl⟩
  have HN0 := Aside0.mk (blk_new W1 (.cells #[.int .i64 T.a0, .int .i64 T.a1, .int .i64 T.a2, .int .i64 T.a3, .int .i64 T.a4, .int .i64 T.a5, .int .i64 T.a6, .int .i64 T.a7, .int .i64 T.a8] 2))
  rw [← hgi] at HN0
  rw [← hgi]
  clear c0 c1 c2 c3 c4 c5 c6 c7 c8 c9 c10 hgi
  go_loopw [3, 30] (fun v3 v30 wr => CNRel T A cO B cD g1 gi w v3 v30 wr) (fun _ v _ => 9 - (intOf v).toNat)
  case atStart => exact ⟨0, rfl, by omega, ⟨RowV.nil _ _ _ _, (ti_b HT (balloc _ _)).out⟩, HN0⟩
  case round =>
    obtain ⟨k, rfl, hk, HC, HG⟩ := hrel
    clear HN0 HT
    by_cases hlt : k < 9
    · have p1 : decide ((k : Int) < 9) = true := decide_eq_true (by omega)
      obtain ⟨m, hm⟩ : ∃ m, m = (nineN T).getD k 0 := ⟨_, rfl⟩
      have h9 : k = 0 ∨ k = 1 ∨ k = 2 ∨ k = 3 ∨ k = 4 ∨ k = 5 ∨ k = 6 ∨ k = 7 ∨ k = 8 := by omega
      have hmc : wr.cell? ⟨gi, k, none⟩ = some (.int .i64 m) := by
        rw [blk_cell HG.out k, hm]
        rcases h9 with rfl | rfl | rfl | rfl | rfl | rfl | rfl | rfl | rfl <;> rfl
      have hmb : I64 m := by
        refine HI.out.n m ?_
        rw [hm]
        rcases h9 with rfl | rfl | rfl | rfl | rfl | rfl | rfl | rfl | rfl <;> simp [nineN]
      have HW5 := Aside0.mk (nineW_snoc T k hlt)
      rw [← hm] at HW5
      clear hm h9
      go_wp2_with fail
      refine (format_any m hmb.1 hmb.2 wr (HTw.out.below HC.out.2.bel)).mono ?_
      rintro e w5 ⟨rfl, hb5⟩
      obtain ⟨X, hX⟩ : ∃ X, X = Lib.itoa m := ⟨_, rfl⟩
      rw [← hX] at HW5
      rw [← hX]
      have XC := tc_b (tc_b HC hb5) (balloc w5 (.cells #[.string (tx X)] 9))
      have XG := Aside0.mk (((balloc w5 (.cells #[.string (tx X)] 9)).block gi (blk_ltI ((hb5.block gi (blk_ltI HG.out)).trans HG.out))).trans ((hb5.block gi (blk_ltI HG.out)).trans HG.out))
      have HNX := Aside0.mk (new_news w5 [.string (tx X)] 9)
      clear hX hb5 hmc HC HG
      go_wp2_with (at_builtin; go_loud (refine row_append (w := w5.alloc (.cells #[.string (tx X)] 9)) rfl (.tmp 34) (.tmp 37) 38 rfl 9 Tryd.t9 (.string ByteArray.empty) 1 16 Tryd.underlying38 (by kernel_rfl) rfl rfl rfl (by decide) (by decide) w.heap.size _ k (strsV (nineW T k)) (by rfl) XC.out.1 ⟨w5.heap.size, 0, none⟩ 1 1 [.string (tx X)] (by rfl) rfl HNX.out (by simp [Value.oneCell']) (by simp only [maxLen]; omega) (by omega) XC.out.2.bel.size ?_); intro v1 w6 hR6 hG6 hO6 hF6; have XC' := tc_grow XC HIA.out HIB.out hG6 hR6; have XG' := Aside0.mk (gb_keep hG6 XG.out (XC.out.1.ne XG.out (by decide))); clear hR6 hG6 hO6 hF6)
      refine ⟨⟨k + 1, by simp, by omega, ?_, XG'⟩, by simp [intOf]; omega⟩
      rw [HW5.out]
      exact XC'
    · have p1 : decide ((k : Int) < 9) = false := decide_eq_false (by omega)
      obtain rfl : k = 9 := by omega
      rw [show ((9 : Nat) : Int) = (9 : Int) from rfl]
      have c9 := (toCells HC.out.2.blk).2.2.2.2.2.2.2.2.2.1
      go_wp2_with fail
      clear c9 p1 HG
      go_loopw [3, 43] (fun v3 v43 wr => CORel T A cO B cD g1 w v3 v43 wr) (fun _ v _ => T.no - (intOf v).toNat)
      case atStart => exact ⟨0, rfl, by omega, HC⟩
      case round =>
        obtain ⟨i, rfl, hi, HD⟩ := hrel
        clear HC
        by_cases hlt2 : i < T.no
        · have p1 : decide ((i : Int) < (T.no : Int)) = true := decide_eq_true (by omega)
          obtain ⟨ad, rfl, o0, o1, o2, o3, o4, o5, o6⟩ := outs7 HD.out.2.outs hlt2
          have c9 := (toCells HD.out.2.blk).2.2.2.2.2.2.2.2.2.1
          have hx := HI.out.f (i * 7) (by omega)
          have hy := HI.out.f (i * 7 + 4) (by omega)
          have HW5 := Aside0.mk (outW_snoc T i)
          obtain ⟨x, hxe⟩ : ∃ x, x = T.f (i * 7) := ⟨_, rfl⟩
          obtain ⟨y, hye⟩ : ∃ x, x = T.f (i * 7 + 4) := ⟨_, rfl⟩
          rw [← hxe] at o0 hx HW5
          rw [← hye] at o4 hy HW5
          generalize T.f (i * 7 + 1) = x1 at o1
          generalize T.f (i * 7 + 2) = x2 at o2
          generalize T.f (i * 7 + 3) = x3 at o3
          generalize T.f (i * 7 + 5) = x5 at o5
          generalize T.f (i * 7 + 6) = x6 at o6
          clear hxe hye
          have w5 : IntKind.i64.wrap ((i : Int) + 1) = (i : Int) + 1 := wrap_small _ (by omega) (by omega)
          have KB := blk_new wr (.cells #[.int .i64 x, .int .i64 x1, .int .i64 x2, .int .i64 x3, .int .i64 y, .int .i64 x5, .int .i64 x6] 64)
          have HD2 := tc_b HD (balloc wr (.cells #[.int .i64 x, .int .i64 x1, .int .i64 x2, .int .i64 x3, .int .i64 y, .int .i64 x5, .int .i64 x6] 64))
          have HKB := Aside0.mk KB
          clear KB
          go_wp2_with fail
          obtain ⟨gp, hgp⟩ : ∃ g, g = wr.heap.size := ⟨_, rfl⟩
          rw [← hgp] at HKB
          rw [← hgp]
          generalize wr.alloc (.cells #[.int .i64 x, .int .i64 x1, .int .i64 x2, .int .i64 x3, .int .i64 y, .int .i64 x5, .int .i64 x6] 64) = W2 at HD2 HKB ⊢
          clear hgp o0 o1 o2 o3 o4 o5 o6 c9 HD
          have k0 := blk_cell HKB.out 0
          have k4 := blk_cell HKB.out 4
          simp only [List.getElem?_toArray, List.getElem?_cons_zero, List.getElem?_cons_succ] at k0 k4
          refine start_ (n := 11) (S := fun w' => w'.cell? ⟨gp, 0, none⟩ = some (.int .i64 x) ∧ w'.cell? ⟨gp, 4, none⟩ = some (.int .i64 y) ∧ Aside0 (TellC T (some ad) cO B cD g1 w u3 (9 + 3 * i) (strsV (outW T i)) w')) (ds := [9]) #[false, false, false, false, false, false, false, false, false, false, false] (by kernel_rfl) rfl rfl ⟨k0, k4, (tc_b HD2 (d1 _))⟩ (fun hHeld => ?_)
          refine pure_ (i := 0) (N := some 47) (v := ?_) (a' := ?_) #[true, false, false, false, false, false, false, false, false, false, false] rfl rfl (by kernel_rfl) (fun _ _ _ h => h) (Or.inl ⟨by rfl, ?_⟩) ?_ ?_
          rotate_left
          · intro w'
            go_simp
            with_reducible rfl
          rotate_left
          · simp only [Act.put, List.setIfInBounds_toArray, List.set_cons_zero, List.set_cons_succ, i64_w, i32_w]
            rfl
          refine pure_ (i := 1) (N := some 48) (v := ?_) (a' := ?_) #[true, true, false, false, false, false, false, false, false, false, false] rfl rfl (by kernel_rfl) (fun _ _ _ h => h) (Or.inl ⟨by rfl, ?_⟩) ?_ ?_
          rotate_left
          · intro w'
            go_simp
            with_reducible rfl
          rotate_left
          · simp only [Act.put, List.setIfInBounds_toArray, List.set_cons_zero, List.set_cons_succ, i64_w, i32_w]
            rfl
          refine pure_ (i := 2) (N := some 49) (v := ?_) (a' := ?_) #[true, true, true, false, false, false, false, false, false, false, false] rfl rfl (by kernel_rfl) (fun _ _ _ h => h) (Or.inl ⟨by rfl, ?_⟩) ?_ ?_
          rotate_left
          · intro w'
            go_simp
            with_reducible rfl
          rotate_left
          · simp only [Act.put, List.setIfInBounds_toArray, List.set_cons_zero, List.set_cons_succ, i64_w, i32_w]
            rfl
          refine pure_ (i := 5) (N := some 52) (v := ?_) (a' := ?_) #[true, true, true, false, false, true, false, false, false, false, false] rfl rfl (by kernel_rfl) (fun _ _ _ h => h) (Or.inl ⟨by rfl, ?_⟩) ?_ ?_
          rotate_left
          · intro w'
            go_simp
            with_reducible rfl
          rotate_left
          · simp only [Act.put, List.setIfInBounds_toArray, List.set_cons_zero, List.set_cons_succ, i64_w, i32_w]
            rfl
          refine take_ (i := 3) (N := some 50) (v := ?_) (a' := ?_) #[true, true, true, true, false, true, false, false, false, false, false] rfl rfl (by kernel_rfl) (fun _ _ _ h => h) (Or.inl ⟨by rfl, ?_⟩) hHeld ?_ ?_
          rotate_left
          · rintro w' ⟨s0, s1, s2⟩
            go_simp
            with_reducible rfl
          rotate_left
          · simp only [Act.put, List.setIfInBounds_toArray, List.set_cons_zero, List.set_cons_succ, i64_w, i32_w]
            rfl
          refine take_ (i := 6) (N := some 53) (v := ?_) (a' := ?_) #[true, true, true, true, false, true, true, false, false, false, false] rfl rfl (by kernel_rfl) (fun _ _ _ h => h) (Or.inl ⟨by rfl, ?_⟩) hHeld ?_ ?_
          rotate_left
          · rintro w' ⟨s0, s1, s2⟩
            go_simp
            with_reducible rfl
          rotate_left
          · simp only [Act.put, List.setIfInBounds_toArray, List.set_cons_zero, List.set_cons_succ, i64_w, i32_w]
            rfl
          refine one_ (i := 4) (N := some 51) #[true, true, true, true, true, true, true, false, false, false, false] rfl rfl (by kernel_rfl) (by decide) (fun K hK => ?_)
          refine goes_ Tryd.func23 (by kernel_rfl) rfl #[.int .i64 x] (by rfl) rfl rfl (by simp only [List.map_toArray, List.map_cons, List.map_nil]; rfl) ?_
          with_reducible refine (itoa_I hx _ (tc_tab hHeld.2.2 HTw)).mono ?_
          rintro e w3 ⟨rfl, hb⟩
          refine ⟨_, rfl, ?_⟩
          refine hK.out _ _ ⟨(cell_b hHeld.1 hb), (cell_b hHeld.2.1 hb), (tc_b hHeld.2.2 hb)⟩ (fun hHeld => ?_)
          clear hK K
          refine norm_ (a' := ?_) ?_ ?_
          rotate_left
          · show Act.put _ (some 51) _ = _
            simp only [Act.put, List.setIfInBounds_toArray, List.set_cons_zero, List.set_cons_succ, i64_w, i32_w]
            rfl
          refine one_ (i := 7) (N := some 54) #[true, true, true, true, true, true, true, true, false, false, false] rfl rfl (by kernel_rfl) (by decide) (fun K hK => ?_)
          refine goes_ Tryd.func23 (by kernel_rfl) rfl #[.int .i64 y] (by rfl) rfl rfl (by simp only [List.map_toArray, List.map_cons, List.map_nil]; rfl) ?_
          with_reducible refine (itoa_I hy _ (tc_tab hHeld.2.2 HTw)).mono ?_
          rintro e w3 ⟨rfl, hb⟩
          refine ⟨_, rfl, ?_⟩
          refine hK.out _ _ ⟨(cell_b hHeld.1 hb), (cell_b hHeld.2.1 hb), (tc_b hHeld.2.2 hb)⟩ (fun hHeld => ?_)
          clear hK K
          refine norm_ (a' := ?_) ?_ ?_
          rotate_left
          · show Act.put _ (some 54) _ = _
            simp only [Act.put, List.setIfInBounds_toArray, List.set_cons_zero, List.set_cons_succ, i64_w, i32_w]
            rfl
          refine one_ (i := 8) (N := some 55) #[true, true, true, true, true, true, true, true, true, false, false] rfl rfl (by kernel_rfl) (by decide) (fun K hK => ?_)
          refine value_ (w1 := ?_) (v := ?_) (by rfl) rfl ?_ ?_
          rotate_left 2
          · go_simp
            constructor
            · rfl
            · rfl
          refine hK.out _ _ ⟨(cell_b hHeld.1 (balloc _ _)), (cell_b hHeld.2.1 (balloc _ _)), (tc_b hHeld.2.2 (balloc _ _))⟩ (fun hHeld => ?_)
          clear hK K
          refine norm_ (a' := ?_) ?_ ?_
          rotate_left
          · show Act.put _ (some 55) _ = _
            simp only [Act.put, List.setIfInBounds_toArray, List.set_cons_zero, List.set_cons_succ, i64_w, i32_w]
            rfl
          refine last_ (i := 9) (N := some 56) #[true, true, true, true, true, true, true, true, true, true, false] rfl rfl (by kernel_rfl) (by decide) (fun K hK => ?_)
          have HS1 := Aside0.mk hHeld.2.2.out
          refine row_append_step (w := (w3.alloc (.cells #[.string (tx [111]), .string (tx (Lib.itoa x)), .string (tx (Lib.itoa y))] 9))) (.tmp 47) (.tmp 55) 38 rfl 9 Tryd.t9 (.string ByteArray.empty) 1 16 Tryd.underlying38 (by kernel_rfl) rfl rfl rfl (by decide) (by decide) w.heap.size u3 (9 + 3 * i) (strsV (outW T i)) (by rfl) HS1.out.1 ⟨w3.heap.size, 0, none⟩ 3 3 [.string (tx [111]), .string (tx (Lib.itoa x)), .string (tx (Lib.itoa y))] (by rfl) rfl (new_news w3 _ _) (by simp [Value.oneCell']) (by simp only [maxLen]; omega) (by omega) HS1.out.2.bel.size ?_
          intro v1 w6 hR6 hG6 hO6 hF6
          have HC6 := tc_grow HS1 HIA.out HIB.out hG6 hR6
          clear hR6 hG6 hO6 hF6
          refine hK.out _ _ ?_
          clear hK K
          refine norm_ (a' := ?_) ?_ ?_
          rotate_left
          · show Act.put _ (some 56) _ = _
            simp only [Act.put, List.setIfInBounds_toArray, List.set_cons_zero, List.set_cons_succ, i64_w, i32_w]
            rfl
          refine pure_ (i := 10) (N := some 3) (v := ?_) (a' := ?_) #[true, true, true, true, true, true, true, true, true, true, true] rfl rfl (by kernel_rfl) (fun _ _ _ h => h) (Or.inl ⟨by rfl, ?_⟩) ?_ ?_
          rotate_left
          · intro w'
            go_simp
            with_reducible rfl
          rotate_left
          · simp only [Act.put, List.setIfInBounds_toArray, List.set_cons_zero, List.set_cons_succ, i64_w, i32_w]
            rfl
          refine done_ (by kernel_rfl) ?_
          go_wp2_with fail
          refine ⟨⟨i + 1, by simp, by omega, ?_⟩, by simp [intOf]; omega⟩
          rw [HW5.out, show 9 + 3 * (i + 1) = 9 + 3 * i + 3 by omega]
          exact HC6
        · have p1 : decide ((i : Int) < (T.no : Int)) = false := decide_eq_false (by omega)
          obtain rfl : i = T.no := by omega
          have c10 := (toCells HD.out.2.blk).2.2.2.2.2.2.2.2.2.2
          go_wp2_with fail
          clear c10 p1
          go_loopw [3, 61] (fun v3 v61 wr => CDRel T A cO B cD g1 w v3 v61 wr) (fun _ v _ => T.nd - (intOf v).toNat)
          case atStart => exact ⟨0, rfl, by omega, HD⟩
          case round =>
            obtain ⟨j, rfl, hj, HE⟩ := hrel
            clear HD
            by_cases hlt3 : j < T.nd
            · have p1 : decide ((j : Int) < (T.nd : Int)) = true := decide_eq_true (by omega)
              obtain ⟨ad, rfl, o0⟩ := HE.out.2.drops j hlt3
              have hx := HI.out.h j hlt3
              have HW5 := Aside0.mk (drW_snoc T j)
              obtain ⟨x, hxe⟩ : ∃ x, x = T.h j := ⟨_, rfl⟩
              rw [← hxe] at o0 hx HW5
              clear hxe
              have w5 : IntKind.i64.wrap ((j : Int) + 1) = (j : Int) + 1 := wrap_small _ (by omega) (by omega)
              go_wp2_with fail
              refine (itoa_any x hx.1 hx.2 wr (HTw.out.below HE.out.2.bel)).mono ?_
              rintro e w5 ⟨rfl, hb5⟩
              obtain ⟨X, hX⟩ : ∃ X, X = Lib.itoa x := ⟨_, rfl⟩
              rw [← hX] at HW5
              rw [← hX]
              have XC := tc_b (tc_b HE hb5) (balloc w5 (.cells #[.string (tx [100]), .string (tx X)] 9))
              have HNX := Aside0.mk (new_news w5 [.string (tx [100]), .string (tx X)] 9)
              clear hX hb5 o0 HE
              go_wp2_with (at_builtin; go_loud (refine row_append (w := w5.alloc (.cells #[.string (tx [100]), .string (tx X)] 9)) rfl (.tmp 65) (.tmp 68) 38 rfl 9 Tryd.t9 (.string ByteArray.empty) 1 16 Tryd.underlying38 (by kernel_rfl) rfl rfl rfl (by decide) (by decide) w.heap.size _ (9 + 3 * T.no + 2 * j) (strsV (drW T j)) (by rfl) XC.out.1 ⟨w5.heap.size, 0, none⟩ 2 2 [.string (tx [100]), .string (tx X)] (by rfl) rfl HNX.out (by simp [Value.oneCell']) (by simp only [maxLen]; omega) (by omega) XC.out.2.bel.size ?_); intro v1 w6 hR6 hG6 hO6 hF6; have XC' := tc_grow XC HIA.out HIB.out hG6 hR6; clear hR6 hG6 hO6 hF6)
              refine ⟨⟨j + 1, by simp, by omega, ?_⟩, by simp [intOf]; omega⟩
              rw [HW5.out, show 9 + 3 * T.no + 2 * (j + 1) = 9 + 3 * T.no + 2 * j + 2 by omega]
              exact XC'
            · have p1 : decide ((j : Int) < (T.nd : Int)) = false := decide_eq_false (by omega)
              obtain rfl : j = T.nd := by omega
              have hR := HE.out.1
              rw [← drW_len T T.nd] at hR
              obtain ⟨rg, ro, c, rfl, hJ⟩ := join_row hR (by rw [drW_len]; omega) (by rw [drW_len]; omega) (by rw [drW_join]; have := drS_len HI.out T.nd (Nat.le_refl _); omega)
              rw [drW_join, drW_len] at hJ
              rw [drW_len]
              have HJ := Aside0.mk hJ
              clear hJ hR
              go_wp2_with fail
              refine HJ.out.mono ?_
              rintro e w9 ⟨rfl, hb9⟩
              go_wp2_with fail
              go_ret
              exact ⟨rfl, HE.out.2.bel.trans (hb9.mono HE.out.2.bel.size)⟩
end Go.Proofs.YtkjjjgplidompaaDoor.B
