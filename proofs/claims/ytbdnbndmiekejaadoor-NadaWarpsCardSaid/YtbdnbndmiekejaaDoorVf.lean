/-
  The second controller: the laws of the warps, of the fast way, and of the bounds. Walks over the program.
-/
import Derived.Test.YtbdnbndmiekejaaDoorVe
namespace Go.Proofs.YtbdnbndmiekejaaDoor.B
open Go.RowKit Go.Proofs.YtbdnbndmiekejaaDoorW.PrintWords Go.Proofs.YtbdnbndmiekejaaDoorW.PrintLast Go.Proofs.YtbdnbndmiekejaaDoorW.PrintMore
set_option linter.unusedVariables false
set_option linter.unusedSimpArgs false
/-- A number from 0 to 256. -/
theorem mod_any (k : Int) (hk : I64 k) (w : World) : Calls Tryd.prog 7 #[.int .i64 k, .int .i64 257] w fun e w' => e = .returned (.int .i64 (k % 257)) ∧ w' = w := by
  have h0 := hk.1
  have h1 := hk.2
  have e : (k.tmod 257 + 257) % 257 = k % 257 := by
    have h2 : 0 ≤ k.tmod 257 + 257 := by
      by_cases h : 0 ≤ k
      · rw [Int.tmod_eq_emod_of_nonneg h]
        omega
      · have e : k.tmod 257 = -((-k).tmod 257) := by rw [Int.neg_tmod, Int.neg_neg]
        rw [e, Int.tmod_eq_emod_of_nonneg (by omega)]
        omega
    by_cases h : 0 ≤ k
    · rw [Int.tmod_eq_emod_of_nonneg h]
      omega
    · have e : k.tmod 257 = -((-k).tmod 257) := by rw [Int.neg_tmod, Int.neg_neg]
      rw [e, Int.tmod_eq_emod_of_nonneg (by omega)]
      omega
  have b0 : -257 < k.tmod 257 := by
    by_cases h : 0 ≤ k
    · rw [Int.tmod_eq_emod_of_nonneg h]
      omega
    · have e : k.tmod 257 = -((-k).tmod 257) := by rw [Int.neg_tmod, Int.neg_neg]
      rw [e, Int.tmod_eq_emod_of_nonneg (by omega)]
      omega
  have b1 : k.tmod 257 < 257 := Int.tmod_lt_of_pos k (by omega)
  have HE := Aside0.mk e
  clear e hk
  go_enter Tryd.func7, Tryd.ntmps7
  go_wp2_with fail
  all_goals go_ret
  all_goals exact ⟨ret_int HE.out, rfl⟩
theorem cl_minmax (d : Int) : cl d 0 1000000 = max 0 (min d 1000000) := by
  unfold cl
  split
  · omega
  · split <;> omega
set_option maxHeartbeats 4000000 in
theorem warps_walk (d loss more D L M W S SM S2 MN : Int) (w : World) (hT : Tabs w) (hd : I64 d) (m1 : min d 1000000 = MN) (m2 : max 0 MN = D) (l0 : 0 ≤ L) (q0 : 0 ≤ W) (q1 : W ≤ D) (qz : L = 0 → W = D) (qm : 0 < L → L ≤ M → S ≤ SM) (qs : W ≤ S) (q2 : S2 = S + 20000) (q3 : S ≤ 1000000)
    (K1 : Aside0 (∀ w, Calls Tryd.prog 7 #[.int .i64 loss, .int .i64 257] w fun e w' => e = .returned (.int .i64 L) ∧ w' = w))
    (K2 : Aside0 (∀ w, Calls Tryd.prog 7 #[.int .i64 more, .int .i64 257] w fun e w' => e = .returned (.int .i64 M) ∧ w' = w))
    (C1 : Aside0 (∀ w, Tabs w → Calls Tryd.prog 8 #[.int .i64 d, .int .i64 L] w fun e w' => e = .returned (.int .i64 W) ∧ Below w.heap.size w w'))
    (C2 : Aside0 (∀ w, Tabs w → Calls Tryd.prog 8 #[.int .i64 d, .int .i64 0] w fun e w' => e = .returned (.int .i64 D) ∧ Below w.heap.size w w'))
    (C3 : Aside0 (∀ w, Tabs w → Calls Tryd.prog 9 #[.int .i64 d, .int .i64 L, .bool false] w fun e w' => e = .returned (.int .i64 S) ∧ Below w.heap.size w w'))
    (C4 : Aside0 (∀ w, Tabs w → Calls Tryd.prog 9 #[.int .i64 d, .int .i64 M, .bool false] w fun e w' => e = .returned (.int .i64 SM) ∧ Below w.heap.size w w'))
    (C5 : Aside0 (∀ w, Tabs w → Calls Tryd.prog 9 #[.int .i64 d, .int .i64 L, .bool true] w fun e w' => e = .returned (.int .i64 S2) ∧ Below w.heap.size w w')) :
    Calls Tryd.prog 3 #[.int .i64 d, .int .i64 loss, .int .i64 more] w fun e w' => e = .returned (.bool true) ∧ Below w.heap.size w w' := by
  have HT := Aside0.mk hT
  have d1 : decide (W < 0) = false := by simp; omega
  have d2 : decide (D < W) = false := by simp; omega
  have d3 : decide (W ≤ S) = true := by simp; omega
  have d4 : decide (S ≤ 1000000) = true := by simp; omega
  have HZ := Aside0.mk qz
  have HM := Aside0.mk qm
  have H2 := Aside0.mk q2
  clear hT hd qz qm q2
  have tail : True := trivial
  by_cases hz : L = 0
  · have z1 : (L == 0) = true := by simp [hz]
    have z2 : W = D := HZ.out hz
    have z3 : decide (0 < L) = false := by simp; omega
    subst z2
    have z4 : S + 20000 = S2 := H2.out.symm
    clear hz
    go_enter Tryd.func3, Tryd.ntmps3
    go_wp2_with fail
    refine (K1.out _).mono ?_
    rintro e w1 ⟨rfl, rfl⟩
    go_wp2_with fail
    refine (K2.out _).mono ?_
    rintro e w1 ⟨rfl, rfl⟩
    go_wp2_with fail
    refine (C1.out _ HT.out).mono ?_
    rintro e w1 ⟨rfl, hb⟩
    have T1 := Aside0.mk (HT.out.below hb)
    have B1 := Aside0.mk hb
    clear hb
    go_wp2_with fail
    refine (C2.out _ T1.out).mono ?_
    rintro e w2 ⟨rfl, hb⟩
    have T2 := Aside0.mk (T1.out.below hb)
    have B2 := Aside0.mk (B1.out.trans (hb.mono B1.out.size))
    clear hb
    go_wp2_with fail
    refine (C3.out _ T2.out).mono ?_
    rintro e w3 ⟨rfl, hb⟩
    have T3 := Aside0.mk (T2.out.below hb)
    have B3 := Aside0.mk (B2.out.trans (hb.mono B2.out.size))
    clear hb
    go_wp2_with fail
    refine (C5.out _ T3.out).mono ?_
    rintro e w5 ⟨rfl, hb⟩
    have T5 := Aside0.mk (T3.out.below hb)
    have B5 := Aside0.mk (B3.out.trans (hb.mono B3.out.size))
    clear hb
    go_wp2_with fail
    refine (wakes_any _ T5.out).mono ?_
    rintro e w6 ⟨rfl, hb⟩
    go_wp2_with fail
    go_ret
    exact ⟨rfl, B5.out.trans (hb.mono B5.out.size)⟩
  · have z1 : (L == 0) = false := beq_eq_false_iff_ne.2 hz
    have z3 : decide (0 < L) = true := by simp; omega
    have z4 : S + 20000 = S2 := H2.out.symm
    by_cases hm : L ≤ M
    · have z5 : decide (L ≤ M) = true := decide_eq_true hm
      have z6 : decide (SM < S) = false := by have := HM.out (by omega) hm; simp; omega
      clear hz hm
      go_enter Tryd.func3, Tryd.ntmps3
      go_wp2_with fail
      refine (K1.out _).mono ?_
      rintro e w1 ⟨rfl, rfl⟩
      go_wp2_with fail
      refine (K2.out _).mono ?_
      rintro e w1 ⟨rfl, rfl⟩
      go_wp2_with fail
      refine (C1.out _ HT.out).mono ?_
      rintro e w1 ⟨rfl, hb⟩
      have T1 := Aside0.mk (HT.out.below hb)
      have B1 := Aside0.mk hb
      clear hb
      go_wp2_with fail
      refine (C2.out _ T1.out).mono ?_
      rintro e w2 ⟨rfl, hb⟩
      have T2 := Aside0.mk (T1.out.below hb)
      have B2 := Aside0.mk (B1.out.trans (hb.mono B1.out.size))
      clear hb
      go_wp2_with fail
      refine (C3.out _ T2.out).mono ?_
      rintro e w3 ⟨rfl, hb⟩
      have T3 := Aside0.mk (T2.out.below hb)
      have B3 := Aside0.mk (B2.out.trans (hb.mono B2.out.size))
      clear hb
      go_wp2_with fail
      refine (C4.out _ T3.out).mono ?_
      rintro e w4 ⟨rfl, hb⟩
      have T4 := Aside0.mk (T3.out.below hb)
      have B4 := Aside0.mk (B3.out.trans (hb.mono B3.out.size))
      clear hb
      go_wp2_with fail
      refine (C5.out _ T4.out).mono ?_
      rintro e w5 ⟨rfl, hb⟩
      have T5 := Aside0.mk (T4.out.below hb)
      have B5 := Aside0.mk (B4.out.trans (hb.mono B4.out.size))
      clear hb
      go_wp2_with fail
      refine (wakes_any _ T5.out).mono ?_
      rintro e w6 ⟨rfl, hb⟩
      go_wp2_with fail
      go_ret
      exact ⟨rfl, B5.out.trans (hb.mono B5.out.size)⟩
    · have z5 : decide (L ≤ M) = false := decide_eq_false hm
      clear hz hm
      go_enter Tryd.func3, Tryd.ntmps3
      go_wp2_with fail
      refine (K1.out _).mono ?_
      rintro e w1 ⟨rfl, rfl⟩
      go_wp2_with fail
      refine (K2.out _).mono ?_
      rintro e w1 ⟨rfl, rfl⟩
      go_wp2_with fail
      refine (C1.out _ HT.out).mono ?_
      rintro e w1 ⟨rfl, hb⟩
      have T1 := Aside0.mk (HT.out.below hb)
      have B1 := Aside0.mk hb
      clear hb
      go_wp2_with fail
      refine (C2.out _ T1.out).mono ?_
      rintro e w2 ⟨rfl, hb⟩
      have T2 := Aside0.mk (T1.out.below hb)
      have B2 := Aside0.mk (B1.out.trans (hb.mono B1.out.size))
      clear hb
      go_wp2_with fail
      refine (C3.out _ T2.out).mono ?_
      rintro e w3 ⟨rfl, hb⟩
      have T3 := Aside0.mk (T2.out.below hb)
      have B3 := Aside0.mk (B2.out.trans (hb.mono B2.out.size))
      clear hb
      go_wp2_with fail
      refine (C5.out _ T3.out).mono ?_
      rintro e w5 ⟨rfl, hb⟩
      have T5 := Aside0.mk (T3.out.below hb)
      have B5 := Aside0.mk (B3.out.trans (hb.mono B3.out.size))
      clear hb
      go_wp2_with fail
      refine (wakes_any _ T5.out).mono ?_
      rintro e w6 ⟨rfl, hb⟩
      go_wp2_with fail
      go_ret
      exact ⟨rfl, B5.out.trans (hb.mono B5.out.size)⟩
theorem cl_in2 {a lo hi : Int} (h : lo ≤ a) (h' : a ≤ hi) : cl a lo hi = a := cl_in h h'
theorem warps_true (d loss more : Int) (w : World) (hT : Tabs w) (hd : I64 d) (hl : I64 loss) (hm : I64 more) : Calls Tryd.prog 3 #[.int .i64 d, .int .i64 loss, .int .i64 more] w fun e w' => e = .returned (.bool true) ∧ Below w.heap.size w w' := by
  have hD := cl_range (a := d) (lo := 0) (hi := 1000000) (by omega)
  have l0 : 0 ≤ loss % 257 := by omega
  have l1 : loss % 257 ≤ 256 := by omega
  have k0 : 0 ≤ more % 257 := by omega
  have k1 : more % 257 ≤ 256 := by omega
  obtain ⟨a1, a2, a3, a4, a5, a6, a7⟩ := warps_law (cl d 0 1000000) (loss % 257) (more % 257) hD.1 hD.2 l0 l1 k0 k1
  have C1 := fun w h => warp_any d (loss % 257) w h
  have C2 := fun w h => warp_any d 0 w h
  have C3 := fun w h => signal_any d (loss % 257) false w h
  have C4 := fun w h => signal_any d (more % 257) false w h
  have C5 := fun w h => signal_any d (loss % 257) true w h
  rw [cl_in2 l0 l1] at C1 C3 C5
  rw [cl_in2 k0 k1] at C4
  rw [cl_in2 (a := 0) (by omega) (by omega), warp_zero] at C2
  exact warps_walk d loss more (cl d 0 1000000) (loss % 257) (more % 257) _ _ _ _ _ w hT hd rfl (cl_minmax d).symm l0 a1 a2 a3 a4 a5 a6 a7 ⟨fun w => mod_any loss hl w⟩ ⟨fun w => mod_any more hm w⟩ ⟨C1⟩ ⟨C2⟩ ⟨C3⟩ ⟨C4⟩ ⟨C5⟩
end Go.Proofs.YtbdnbndmiekejaaDoor.B
