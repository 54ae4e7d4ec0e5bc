/-
  The second controller: the warped delay, the signal. Walk over the program.
-/
import Derived.Test.YtbdnbndmiekejaaDoorVa
namespace Go.Proofs.YtbdnbndmiekejaaDoor.B
open Go.RowKit Go.Proofs.YtbdnbndmiekejaaDoorW.PrintWords Go.Proofs.YtbdnbndmiekejaaDoorW.PrintLast Go.Proofs.YtbdnbndmiekejaaDoorW.PrintMore
set_option linter.unusedVariables false
set_option linter.unusedSimpArgs false
theorem clamp_run (a lo hi V : Int) (hV : cl a lo hi = V) (w : World) : Calls Tryd.prog 16 #[.int .i64 a, .int .i64 lo, .int .i64 hi] w fun e w' => e = .returned (.int .i64 V) ∧ w' = w := by
  subst hV
  exact clamp_any a lo hi w
set_option maxHeartbeats 2000000 in
theorem warp_main (d loss D L V1 V2 F V4 V5 : Int) (w : World) (hT : Tabs w) (hD : 50000 ≤ D) (hL : (L == 0) = false)
    (K1 : Aside0 (∀ w, Calls Tryd.prog 16 #[.int .i64 d, .int .i64 0, .int .i64 1000000] w fun e w' => e = .returned (.int .i64 D) ∧ w' = w))
    (K2 : Aside0 (∀ w, Calls Tryd.prog 16 #[.int .i64 loss, .int .i64 0, .int .i64 256] w fun e w' => e = .returned (.int .i64 L) ∧ w' = w))
    (C1 : Aside0 (∀ w, Calls Tryd.prog 19 #[.int .i64 (wrap64 (D - 50000))] w fun e w' => e = .returned (.int .i64 V1) ∧ Below w.heap.size w w')) (C2 : Aside0 (∀ w, Calls Tryd.prog 19 #[.int .i64 (wrap64 100000)] w fun e w' => e = .returned (.int .i64 429496729600000) ∧ Below w.heap.size w w'))
    (C3 : Aside0 (∀ w, Calls Tryd.prog 18 #[.int .i64 V1, .int .i64 429496729600000] w fun e w' => e = .returned (.int .i64 V2) ∧ Below w.heap.size w w'))
    (C4 : Aside0 (∀ w, Tabs w → Calls Tryd.prog 17 #[.int .i64 V2] w fun e w' => e = .returned (.int .i64 F) ∧ Below w.heap.size w w'))
    (C5 : Aside0 (∀ w, Calls Tryd.prog 19 #[.int .i64 50000] w fun e w' => e = .returned (.int .i64 214748364800000) ∧ Below w.heap.size w w'))
    (C6 : Aside0 (∀ w, Calls Tryd.prog 21 #[.int .i64 214748364800000, .int .i64 F] w fun e w' => e = .returned (.int .i64 V4) ∧ Below w.heap.size w w'))
    (C7 : Aside0 (∀ w, Calls Tryd.prog 20 #[.int .i64 V4] w fun e w' => e = .returned (.int .i64 V5) ∧ Below w.heap.size w w')) :
    Calls Tryd.prog 8 #[.int .i64 d, .int .i64 loss] w fun e w' => e = .returned (.int .i64 V5) ∧ Below w.heap.size w w' := by
  have k1 : decide (D < 50000) = false := by simp; omega
  have n0 := hT.2.1
  have HT := Aside0.mk hT
  clear hT
  go_enter Tryd.func8, Tryd.ntmps8
  go_wp2_with fail
  refine (K1.out _).mono ?_
  rintro e w1 ⟨rfl, rfl⟩
  go_wp2_with fail
  refine (K2.out _).mono ?_
  rintro e w1 ⟨rfl, rfl⟩
  go_wp2_with fail
  have HW : Aside0 (Tabs w1.drew ∧ Below w1.heap.size w1 w1.drew) := ⟨HT.out.below (Below.refl _ _).drew, (Below.refl _ _).drew⟩
  refine start_ (n := 12) (S := fun w' => w'.cell? ⟨0, 0, none⟩ = some (.int .i64 50000) ∧ Aside0 (Tabs w' ∧ Below w1.heap.size w1 w')) (ds := []) #[false, false, false, false, false, false, false, false, false, false, false, false] (by kernel_rfl) rfl rfl ⟨HW.out.1.2.1, HW⟩ (fun hHeld => ?_)
  refine pure_ (i := 0) (N := some 18) (v := ?_) (a' := ?_) #[true, false, false, false, false, false, false, false, false, false, false, false] rfl rfl (by kernel_rfl) (fun _ _ _ h => h) (Or.inl ⟨by rfl, ?_⟩) ?_ ?_
  rotate_left
  · intro w'
    go_simp
    with_reducible rfl
  rotate_left
  · simp only [Act.put, List.setIfInBounds_toArray, List.set_cons_zero, List.set_cons_succ, i64_w, i32_w]
    rfl
  refine pure_ (i := 1) (N := some 19) (v := ?_) (a' := ?_) #[true, true, false, false, false, false, false, false, false, false, false, false] rfl rfl (by kernel_rfl) (fun _ _ _ h => h) (Or.inl ⟨by rfl, ?_⟩) ?_ ?_
  rotate_left
  · intro w'
    go_simp
    with_reducible rfl
  rotate_left
  · simp only [Act.put, List.setIfInBounds_toArray, List.set_cons_zero, List.set_cons_succ, i64_w, i32_w]
    rfl
  refine pure_ (i := 5) (N := some 23) (v := ?_) (a' := ?_) #[true, true, false, false, false, true, false, false, false, false, false, false] rfl rfl (by kernel_rfl) (fun _ _ _ h => h) (Or.inl ⟨by rfl, ?_⟩) ?_ ?_
  rotate_left
  · intro w'
    go_simp
    with_reducible rfl
  rotate_left
  · simp only [Act.put, List.setIfInBounds_toArray, List.set_cons_zero, List.set_cons_succ, i64_w, i32_w]
    rfl
  refine take_ (i := 2) (N := some 20) (v := ?_) (a' := ?_) #[true, true, true, false, false, true, false, false, false, false, false, false] rfl rfl (by kernel_rfl) (fun _ _ _ h => h) (Or.inl ⟨by rfl, ?_⟩) hHeld ?_ ?_
  rotate_left
  · rintro w' ⟨s0, s1⟩
    go_simp
    with_reducible rfl
  rotate_left
  · simp only [Act.put, List.setIfInBounds_toArray, List.set_cons_zero, List.set_cons_succ, i64_w, i32_w]
    rfl
  refine pure_ (i := 3) (N := some 21) (v := ?_) (a' := ?_) #[true, true, true, true, false, true, false, false, false, false, false, false] rfl rfl (by kernel_rfl) (fun _ _ _ h => h) (Or.inl ⟨by rfl, ?_⟩) ?_ ?_
  rotate_left
  · intro w'
    go_simp
    with_reducible rfl
  rotate_left
  · simp only [Act.put, List.setIfInBounds_toArray, List.set_cons_zero, List.set_cons_succ, i64_w, i32_w]
    rfl
  refine take_ (i := 6) (N := some 24) (v := ?_) (a' := ?_) #[true, true, true, true, false, true, true, false, false, false, false, false] rfl rfl (by kernel_rfl) (fun _ _ _ h => h) (Or.inl ⟨by rfl, ?_⟩) hHeld ?_ ?_
  rotate_left
  · rintro w' ⟨s0, s1⟩
    go_simp
    with_reducible rfl
  rotate_left
  · simp only [Act.put, List.setIfInBounds_toArray, List.set_cons_zero, List.set_cons_succ, i64_w, i32_w]
    rfl
  refine pure_ (i := 7) (N := some 25) (v := ?_) (a' := ?_) #[true, true, true, true, false, true, true, true, false, false, false, false] rfl rfl (by kernel_rfl) (fun _ _ _ h => h) (Or.inl ⟨by rfl, ?_⟩) ?_ ?_
  rotate_left
  · intro w'
    go_simp
    with_reducible rfl
  rotate_left
  · simp only [Act.put, List.setIfInBounds_toArray, List.set_cons_zero, List.set_cons_succ, i64_w, i32_w]
    rfl
  refine one_ (i := 4) (N := some 22) #[true, true, true, true, true, true, true, true, false, false, false, false] rfl rfl (by kernel_rfl) (by decide) (fun K hK => ?_)
  refine goes_ Tryd.func19 (by kernel_rfl) rfl #[.int .i64 (wrap64 (D - 50000))] (by rfl) rfl rfl (by simp only [List.map_toArray, List.map_cons, List.map_nil]; rfl) ?_
  with_reducible refine (C1.out _).mono ?_
  rintro e w3 ⟨rfl, hb⟩
  refine ⟨_, rfl, ?_⟩
  refine hK.out _ _ ⟨(hHeld.2.out.1.below hb).2.1, ⟨hHeld.2.out.1.below hb, hHeld.2.out.2.trans (hb.mono hHeld.2.out.2.size)⟩⟩ (fun hHeld => ?_)
  clear hK K
  refine norm_ (a' := ?_) ?_ ?_
  rotate_left
  · show Act.put _ (some 22) _ = _
    simp only [Act.put, List.setIfInBounds_toArray, List.set_cons_zero, List.set_cons_succ, i64_w, i32_w]
    rfl
  refine one_ (i := 8) (N := some 26) #[true, true, true, true, true, true, true, true, true, false, false, false] rfl rfl (by kernel_rfl) (by decide) (fun K hK => ?_)
  refine goes_ Tryd.func19 (by kernel_rfl) rfl #[.int .i64 (wrap64 100000)] (by rfl) rfl rfl (by simp only [List.map_toArray, List.map_cons, List.map_nil]; rfl) ?_
  with_reducible refine (C2.out _).mono ?_
  rintro e w3 ⟨rfl, hb⟩
  refine ⟨_, rfl, ?_⟩
  refine hK.out _ _ ⟨(hHeld.2.out.1.below hb).2.1, ⟨hHeld.2.out.1.below hb, hHeld.2.out.2.trans (hb.mono hHeld.2.out.2.size)⟩⟩ (fun hHeld => ?_)
  clear hK K
  refine norm_ (a' := ?_) ?_ ?_
  rotate_left
  · show Act.put _ (some 26) _ = _
    simp only [Act.put, List.setIfInBounds_toArray, List.set_cons_zero, List.set_cons_succ, i64_w, i32_w]
    rfl
  refine one_ (i := 9) (N := some 27) #[true, true, true, true, true, true, true, true, true, true, false, false] rfl rfl (by kernel_rfl) (by decide) (fun K hK => ?_)
  refine goes_ Tryd.func18 (by kernel_rfl) rfl #[.int .i64 V1, .int .i64 429496729600000] (by rfl) rfl rfl (by simp only [List.map_toArray, List.map_cons, List.map_nil]; rfl) ?_
  with_reducible refine (C3.out _).mono ?_
  rintro e w3 ⟨rfl, hb⟩
  refine ⟨_, rfl, ?_⟩
  refine hK.out _ _ ⟨(hHeld.2.out.1.below hb).2.1, ⟨hHeld.2.out.1.below hb, hHeld.2.out.2.trans (hb.mono hHeld.2.out.2.size)⟩⟩ (fun hHeld => ?_)
  clear hK K
  refine norm_ (a' := ?_) ?_ ?_
  rotate_left
  · show Act.put _ (some 27) _ = _
    simp only [Act.put, List.setIfInBounds_toArray, List.set_cons_zero, List.set_cons_succ, i64_w, i32_w]
    rfl
  refine one_ (i := 10) (N := some 28) #[true, true, true, true, true, true, true, true, true, true, true, false] rfl rfl (by kernel_rfl) (by decide) (fun K hK => ?_)
  refine goes_ Tryd.func17 (by kernel_rfl) rfl #[.int .i64 V2] (by rfl) rfl rfl (by simp only [List.map_toArray, List.map_cons, List.map_nil]; rfl) ?_
  with_reducible refine (C4.out _ hHeld.2.out.1).mono ?_
  rintro e w3 ⟨rfl, hb⟩
  refine ⟨_, rfl, ?_⟩
  refine hK.out _ _ ⟨(hHeld.2.out.1.below hb).2.1, ⟨hHeld.2.out.1.below hb, hHeld.2.out.2.trans (hb.mono hHeld.2.out.2.size)⟩⟩ (fun hHeld => ?_)
  clear hK K
  refine norm_ (a' := ?_) ?_ ?_
  rotate_left
  · show Act.put _ (some 28) _ = _
    simp only [Act.put, List.setIfInBounds_toArray, List.set_cons_zero, List.set_cons_succ, i64_w, i32_w]
    rfl
  refine pure_ (i := 11) (N := some 5) (v := ?_) (a' := ?_) #[true, true, true, true, true, true, true, true, true, true, true, true] rfl rfl (by kernel_rfl) (fun _ _ _ h => h) (Or.inl ⟨by rfl, ?_⟩) ?_ ?_
  rotate_left
  · intro w'
    go_simp
    with_reducible rfl
  rotate_left
  · simp only [Act.put, List.setIfInBounds_toArray, List.set_cons_zero, List.set_cons_succ, i64_w, i32_w]
    rfl
  refine done_ (by kernel_rfl) ?_
  have B3 := Aside0.mk hHeld.2.out.2
  have m0 := hHeld.1
  clear hHeld HW n0
  go_wp2_with fail
  refine (C5.out _).mono ?_
  rintro e w5 ⟨rfl, hb⟩
  have B5 := Aside0.mk (B3.out.trans (hb.mono B3.out.size))
  clear hb
  go_wp2_with fail
  refine (C6.out _).mono ?_
  rintro e w6 ⟨rfl, hb⟩
  have B6 := Aside0.mk (B5.out.trans (hb.mono B5.out.size))
  clear hb
  go_wp2_with fail
  refine (C7.out _).mono ?_
  rintro e w7 ⟨rfl, hb⟩
  go_wp2_with fail
  go_ret
  exact ⟨rfl, B6.out.trans (hb.mono B6.out.size)⟩
theorem warp_low (d loss D : Int) (w : World) (hT : Tabs w) (hD : D < 50000)
    (K1 : Aside0 (∀ w, Calls Tryd.prog 16 #[.int .i64 d, .int .i64 0, .int .i64 1000000] w fun e w' => e = .returned (.int .i64 D) ∧ w' = w)) :
    Calls Tryd.prog 8 #[.int .i64 d, .int .i64 loss] w fun e w' => e = .returned (.int .i64 D) ∧ w' = w := by
  have k1 : decide (D < 50000) = true := decide_eq_true hD
  have n0 := hT.2.1
  clear hT hD
  go_enter Tryd.func8, Tryd.ntmps8
  go_wp2_with fail
  refine (K1.out _).mono ?_
  rintro e w1 ⟨rfl, rfl⟩
  go_wp2_with fail
  go_ret
  exact ⟨rfl, rfl⟩
theorem warp_none (d loss D L : Int) (w : World) (hT : Tabs w) (hD : 50000 ≤ D) (hL : (L == 0) = true)
    (K1 : Aside0 (∀ w, Calls Tryd.prog 16 #[.int .i64 d, .int .i64 0, .int .i64 1000000] w fun e w' => e = .returned (.int .i64 D) ∧ w' = w))
    (K2 : Aside0 (∀ w, Calls Tryd.prog 16 #[.int .i64 loss, .int .i64 0, .int .i64 256] w fun e w' => e = .returned (.int .i64 L) ∧ w' = w)) :
    Calls Tryd.prog 8 #[.int .i64 d, .int .i64 loss] w fun e w' => e = .returned (.int .i64 D) ∧ w' = w := by
  have k1 : decide (D < 50000) = false := by simp; omega
  have n0 := hT.2.1
  clear hT hD
  go_enter Tryd.func8, Tryd.ntmps8
  go_wp2_with fail
  refine (K1.out _).mono ?_
  rintro e w1 ⟨rfl, rfl⟩
  go_wp2_with fail
  refine (K2.out _).mono ?_
  rintro e w1 ⟨rfl, rfl⟩
  go_wp2_with fail
  go_ret
  exact ⟨rfl, rfl⟩
theorem w64r (n : Int) (h : -9223372036854775808 ≤ n ∧ n ≤ 9223372036854775807) : wrap64 n = n := by unfold wrap64; omega
theorem warp_any (d loss : Int) (w : World) (hT : Tabs w) : Calls Tryd.prog 8 #[.int .i64 d, .int .i64 loss] w fun e w' => e = .returned (.int .i64 (warpI (cl d 0 1000000) (cl loss 0 256))) ∧ Below w.heap.size w w' := by
  have hd := cl_range (a := d) (lo := 0) (hi := 1000000) (by omega)
  have K1 := Aside0.mk (fun w => clamp_any d 0 1000000 w)
  have K2 := Aside0.mk (fun w => clamp_any loss 0 256 w)
  generalize cl d 0 1000000 = D at *
  generalize cl loss 0 256 = L at *
  unfold warpI
  by_cases h1 : D < 50000
  · rw [if_pos (.inl h1)]
    refine (warp_low d loss D w hT h1 K1).mono ?_
    rintro e w' ⟨he, rfl⟩
    exact ⟨he, Below.refl _ _⟩
  · by_cases h2 : L = 0
    · rw [if_pos (.inr h2)]
      refine (warp_none d loss D L w hT (by omega) (by rw [h2]; rfl) K1 K2).mono ?_
      rintro e w' ⟨he, rfl⟩
      exact ⟨he, Below.refl _ _⟩
    · rw [if_neg (by omega)]
      have ef : hold ((D - 50000) * 4294967296) = (D - 50000) * 4294967296 := hold_in (by omega) (by omega)
      have iD : I64 (D - 50000) := by unfold I64; omega
      have iV : I64 ((D - 50000) * 4294967296) := by unfold I64; omega
      have hf := fade_range (mdo ((D - 50000) * 4294967296) 4294967296 429496729600000 2)
      refine warp_main d loss D L _ _ _ _ _ w hT (by omega) (beq_eq_false_iff_ne.2 h2) K1 K2 ⟨fun w => ?_⟩ ⟨fun w => ?_⟩ ⟨fun w => fdiv_any ((D - 50000) * 4294967296) 429496729600000 iV (by decide) w⟩ ⟨fun w hw => fade_any _ w (mdo_range _ _ _ _) hw.1⟩ ⟨fun w => ?_⟩ ⟨fun w => fmul_any 214748364800000 _ (by decide) (by unfold I64; omega) w⟩ ⟨fun w => fint_any _ (mdo_range _ _ _ _) w⟩
      · rw [w64r (D - 50000) (by omega)]
        have := fof_any (D - 50000) iD w
        rw [ef] at this
        exact this
      · rw [w64r 100000 (by omega)]
        have := fof_any 100000 (by decide) w
        rw [show hold (100000 * 4294967296) = 429496729600000 by decide] at this
        exact this
      · have := fof_any 50000 (by decide) w
        rw [show hold (50000 * 4294967296) = 214748364800000 by decide] at this
        exact this
set_option maxHeartbeats 1000000 in
theorem signal_walk (d loss L W LO S1 X Y : Int) (ecn : Bool) (w : World) (hT : Tabs w) (l0 : 0 ≤ L) (l1 : L ≤ 256) (hX : min S1 1000000 = X)
    (K1 : Aside0 (∀ w, Calls Tryd.prog 16 #[.int .i64 loss, .int .i64 0, .int .i64 256] w fun e w' => e = .returned (.int .i64 L) ∧ w' = w))
    (K2 : Aside0 (∀ w, Calls Tryd.prog 22 #[.int .i64 (100000 * L), .int .i64 L, .int .i64 9, .int .i64 1] w fun e w' => e = .returned (.int .i64 LO) ∧ Below w.heap.size w w'))
    (K3 : Aside0 (∀ w, Tabs w → Calls Tryd.prog 8 #[.int .i64 d, .int .i64 loss] w fun e w' => e = .returned (.int .i64 W) ∧ Below w.heap.size w w'))
    (K4 : Aside0 (∀ w, Calls Tryd.prog 23 #[.int .i64 W, .int .i64 LO] w fun e w' => e = .returned (.int .i64 S1) ∧ Below w.heap.size w w'))
    (K5 : Aside0 (∀ w, Calls Tryd.prog 23 #[.int .i64 X, .int .i64 20000] w fun e w' => e = .returned (.int .i64 Y) ∧ Below w.heap.size w w')) :
    Calls Tryd.prog 9 #[.int .i64 d, .int .i64 loss, .bool ecn] w fun e w' => e = .returned (.int .i64 (if ecn = true then Y else X)) ∧ Below w.heap.size w w' := by
  have n4 := hT.2.2.2.2.2.1
  have n5 := hT.2.2.2.2.2.2.1
  have HT := Aside0.mk hT
  clear hT
  go_enter Tryd.func9, Tryd.ntmps9
  go_wp2_with fail
  refine (K1.out _).mono ?_
  rintro e w1 ⟨rfl, rfl⟩
  go_wp2_with fail
  refine (K2.out _).mono ?_
  rintro e w2 ⟨rfl, hb⟩
  have B2 := Aside0.mk hb
  have T2 := Aside0.mk (HT.out.below hb)
  clear hb
  go_wp2_with fail
  refine (K3.out _ T2.out).mono ?_
  rintro e w3 ⟨rfl, hb⟩
  have B3 := Aside0.mk (B2.out.trans (hb.mono B2.out.size))
  have T3 := Aside0.mk (T2.out.below hb)
  clear hb
  go_wp2_with fail
  refine (K4.out _).mono ?_
  rintro e w4 ⟨rfl, hb⟩
  have B4 := Aside0.mk (B3.out.trans (hb.mono B3.out.size))
  have n9 := (T3.out.below hb).2.2.2.2.2.2.2.2.2.2
  clear hb
  cases ecn
  · go_wp2_with fail
    go_ret
    exact ⟨rfl, B4.out⟩
  · go_wp2_with fail
    refine (K5.out _).mono ?_
    rintro e w5 ⟨rfl, hb⟩
    go_wp2_with fail
    go_ret
    exact ⟨rfl, B4.out.trans (hb.mono B4.out.size)⟩
theorem signal_any (d loss : Int) (ecn : Bool) (w : World) (hT : Tabs w) : Calls Tryd.prog 9 #[.int .i64 d, .int .i64 loss, .bool ecn] w fun e w' => e = .returned (.int .i64 (sigI (cl d 0 1000000) (cl loss 0 256) ecn)) ∧ Below w.heap.size w w' := by
  have hl := cl_range (a := loss) (lo := 0) (hi := 256) (by omega)
  have hd := cl_range (a := d) (lo := 0) (hi := 1000000) (by omega)
  have hw := warp_range (cl d 0 1000000) (cl loss 0 256) hd.1 hd.2
  have ho := lost_eq (cl loss 0 256) hl.1 hl.2
  have K3 := Aside0.mk (fun w (h : Tabs w) => warp_any d loss w h)
  have K1 := Aside0.mk (fun w => clamp_any loss 0 256 w)
  unfold sigI
  generalize cl loss 0 256 = L at *
  generalize cl d 0 1000000 = D at *
  exact signal_walk d loss L _ _ _ _ _ ecn w hT hl.1 hl.2 rfl K1 ⟨fun w => do_any (100000 * L) L 9 1 (by unfold I64; omega) (by unfold I64; omega) (by decide) w⟩ K3 ⟨fun w => add_any _ _ (by unfold I64; omega) (by unfold I64; unfold lostI at ho; omega) w⟩ ⟨fun w => add_any _ 20000 (by have := hold_i64 (warpI D L + mdo (100000 * L) L 9 1); unfold I64 at *; unfold lostI; omega) (by decide) w⟩
end Go.Proofs.YtbdnbndmiekejaaDoor.B
