/-
  A meter: its rate, what was lost, and how both grow. Walks over the program.
-/
import Derived.Test.YtpmbacgdbnfeeaaRb
namespace Go.Proofs.Ytpmbacgdbnfeeaa.B
open Go.RowKit Go.Proofs.YtpmbacgdbnfeeaaW.PrintWords Go.Proofs.YtpmbacgdbnfeeaaW.PrintLast Go.Proofs.YtpmbacgdbnfeeaaW.PrintMore
set_option linter.unusedVariables false
set_option linter.unusedSimpArgs false
def Mt.rate (s : Mt) : Int := if s.any = true then (if s.full = true then mdo (sumS s.l) 8000000 s.window 1 else mdo (sumS s.l) 8000000 (min (max (s.last - s.first) 1000) s.window) 1) else 0
set_option maxHeartbeats 4000000 in
theorem mrate_walk (w : World) (base g : Nat) (bs : Option Nat) (m : Mw) (l : List Smp) (ls : List Bool) (X V1 V2 : Int) (B : Bool) (H : Aside0 (MwRun w w base g bs m l ls))
    (CF : Aside0 (Calls Try.prog 18 #[.pointer (some ⟨g, 0, none⟩)] w fun e w' => e = .returned (.bool (m.any && B)) ∧ Below w.heap.size w w'))
    (CU1 : Aside0 (∀ w, Calls Try.prog 27 #[.int .i64 m.bytes, .int .i64 m.window] w fun e w' => e = .returned (.int .i64 V1) ∧ Below w.heap.size w w'))
    (CU2 : Aside0 (∀ w, Calls Try.prog 27 #[.int .i64 m.bytes, .int .i64 X] w fun e w' => e = .returned (.int .i64 V2) ∧ Below w.heap.size w w'))
    (e1 : min (max (wrap64 (m.last - m.first)) 1000) m.window = X) :
    Calls Try.prog 14 #[.pointer (some ⟨g, 0, none⟩)] w fun e w' => e = .returned (.int .i64 (if m.any = true then (if B = true then V1 else V2) else 0)) ∧ Below w.heap.size w w' := by
  cases ha : m.any
  · have h1 : w.cell? ⟨g, 1, none⟩ = some (.bool false) := H.out.c1.trans (by rw [ha])
    clear ha e1
    go_enter Try.func14, Try.ntmps14
    go_wp2_with fail
    go_ret
    exact ⟨by simp, Below.refl _ _⟩
  · have h1 : w.cell? ⟨g, 1, none⟩ = some (.bool true) := H.out.c1.trans (by rw [ha])
    rw [ha, Bool.true_and] at CF
    go_enter Try.func14, Try.ntmps14
    go_wp2_with fail
    refine CF.out.mono ?_
    rintro e w1 ⟨rfl, hb⟩
    have HB1 := Aside0.mk hb
    clear hb h1
    cases B
    · go_wp2_with fail
      refine start_ (n := 21) (S := fun w' => w'.cell? ⟨g, 5, none⟩ = some (.int .i64 m.bytes) ∧ w'.cell? ⟨g, 3, none⟩ = some (.int .i64 m.last) ∧ w'.cell? ⟨g, 2, none⟩ = some (.int .i64 m.first) ∧ w'.cell? ⟨g, 0, none⟩ = some (.int .i64 m.window) ∧ Aside0 (Below w.heap.size w w')) (ds := []) #[false, false, false, false, false, false, false, false, false, false, false, false, false, false, false, false, false, false, false, false, false] (by kernel_rfl) rfl rfl ⟨(H.out.below (HB1.out.drew)).c5, (H.out.below (HB1.out.drew)).c3, (H.out.below (HB1.out.drew)).c2, (H.out.below (HB1.out.drew)).c0, ⟨HB1.out.drew⟩⟩ (fun hHeld => ?_)
      refine pure_ (i := 0) (N := some 23) (v := ?_) (a' := ?_) #[true, false, false, false, false, false, false, false, false, false, false, false, false, false, false, false, false, false, false, false, false] rfl rfl (by kernel_rfl) (fun _ _ _ h => h) (Or.inl ⟨by rfl, ?_⟩) ?_ ?_
      rotate_left
      · intro w'
        go_simp
        with_reducible rfl
      rotate_left
      · simp only [Act.put, List.setIfInBounds_toArray, List.set_cons_zero, List.set_cons_succ, i64_w, i32_w]
        rfl
      refine pure_ (i := 1) (N := some 24) (v := ?_) (a' := ?_) #[true, true, false, false, false, false, false, false, false, false, false, false, false, false, false, false, false, false, false, false, false] rfl rfl (by kernel_rfl) (fun _ _ _ h => h) (Or.inl ⟨by rfl, ?_⟩) ?_ ?_
      rotate_left
      · intro w'
        go_simp
        with_reducible rfl
      rotate_left
      · simp only [Act.put, List.setIfInBounds_toArray, List.set_cons_zero, List.set_cons_succ, i64_w, i32_w]
        rfl
      refine pure_ (i := 2) (N := some 25) (v := ?_) (a' := ?_) #[true, true, true, false, false, false, false, false, false, false, false, false, false, false, false, false, false, false, false, false, false] rfl rfl (by kernel_rfl) (fun _ _ _ h => h) (Or.inl ⟨by rfl, ?_⟩) ?_ ?_
      rotate_left
      · intro w'
        go_simp
        with_reducible rfl
      rotate_left
      · simp only [Act.put, List.setIfInBounds_toArray, List.set_cons_zero, List.set_cons_succ, i64_w, i32_w]
        rfl
      refine pure_ (i := 4) (N := some 27) (v := ?_) (a' := ?_) #[true, true, true, false, true, false, false, false, false, false, false, false, false, false, false, false, false, false, false, false, false] rfl rfl (by kernel_rfl) (fun _ _ _ h => h) (Or.inl ⟨by rfl, ?_⟩) ?_ ?_
      rotate_left
      · intro w'
        go_simp
        with_reducible rfl
      rotate_left
      · simp only [Act.put, List.setIfInBounds_toArray, List.set_cons_zero, List.set_cons_succ, i64_w, i32_w]
        rfl
      refine pure_ (i := 5) (N := some 28) (v := ?_) (a' := ?_) #[true, true, true, false, true, true, false, false, false, false, false, false, false, false, false, false, false, false, false, false, false] rfl rfl (by kernel_rfl) (fun _ _ _ h => h) (Or.inl ⟨by rfl, ?_⟩) ?_ ?_
      rotate_left
      · intro w'
        go_simp
        with_reducible rfl
      rotate_left
      · simp only [Act.put, List.setIfInBounds_toArray, List.set_cons_zero, List.set_cons_succ, i64_w, i32_w]
        rfl
      refine pure_ (i := 6) (N := some 29) (v := ?_) (a' := ?_) #[true, true, true, false, true, true, true, false, false, false, false, false, false, false, false, false, false, false, false, false, false] rfl rfl (by kernel_rfl) (fun _ _ _ h => h) (Or.inl ⟨by rfl, ?_⟩) ?_ ?_
      rotate_left
      · intro w'
        go_simp
        with_reducible rfl
      rotate_left
      · simp only [Act.put, List.setIfInBounds_toArray, List.set_cons_zero, List.set_cons_succ, i64_w, i32_w]
        rfl
      refine pure_ (i := 8) (N := some 31) (v := ?_) (a' := ?_) #[true, true, true, false, true, true, true, false, true, false, false, false, false, false, false, false, false, false, false, false, false] rfl rfl (by kernel_rfl) (fun _ _ _ h => h) (Or.inl ⟨by rfl, ?_⟩) ?_ ?_
      rotate_left
      · intro w'
        go_simp
        with_reducible rfl
      rotate_left
      · simp only [Act.put, List.setIfInBounds_toArray, List.set_cons_zero, List.set_cons_succ, i64_w, i32_w]
        rfl
      refine pure_ (i := 9) (N := some 32) (v := ?_) (a' := ?_) #[true, true, true, false, true, true, true, false, true, true, false, false, false, false, false, false, false, false, false, false, false] rfl rfl (by kernel_rfl) (fun _ _ _ h => h) (Or.inl ⟨by rfl, ?_⟩) ?_ ?_
      rotate_left
      · intro w'
        go_simp
        with_reducible rfl
      rotate_left
      · simp only [Act.put, List.setIfInBounds_toArray, List.set_cons_zero, List.set_cons_succ, i64_w, i32_w]
        rfl
      refine pure_ (i := 10) (N := some 33) (v := ?_) (a' := ?_) #[true, true, true, false, true, true, true, false, true, true, true, false, false, false, false, false, false, false, false, false, false] rfl rfl (by kernel_rfl) (fun _ _ _ h => h) (Or.inl ⟨by rfl, ?_⟩) ?_ ?_
      rotate_left
      · intro w'
        go_simp
        with_reducible rfl
      rotate_left
      · simp only [Act.put, List.setIfInBounds_toArray, List.set_cons_zero, List.set_cons_succ, i64_w, i32_w]
        rfl
      refine pure_ (i := 14) (N := some 37) (v := ?_) (a' := ?_) #[true, true, true, false, true, true, true, false, true, true, true, false, false, false, true, false, false, false, false, false, false] rfl rfl (by kernel_rfl) (fun _ _ _ h => h) (Or.inl ⟨by rfl, ?_⟩) ?_ ?_
      rotate_left
      · intro w'
        go_simp
        with_reducible rfl
      rotate_left
      · simp only [Act.put, List.setIfInBounds_toArray, List.set_cons_zero, List.set_cons_succ, i64_w, i32_w]
        rfl
      refine pure_ (i := 15) (N := some 38) (v := ?_) (a' := ?_) #[true, true, true, false, true, true, true, false, true, true, true, false, false, false, true, true, false, false, false, false, false] rfl rfl (by kernel_rfl) (fun _ _ _ h => h) (Or.inl ⟨by rfl, ?_⟩) ?_ ?_
      rotate_left
      · intro w'
        go_simp
        with_reducible rfl
      rotate_left
      · simp only [Act.put, List.setIfInBounds_toArray, List.set_cons_zero, List.set_cons_succ, i64_w, i32_w]
        rfl
      refine pure_ (i := 16) (N := some 39) (v := ?_) (a' := ?_) #[true, true, true, false, true, true, true, false, true, true, true, false, false, false, true, true, true, false, false, false, false] rfl rfl (by kernel_rfl) (fun _ _ _ h => h) (Or.inl ⟨by rfl, ?_⟩) ?_ ?_
      rotate_left
      · intro w'
        go_simp
        with_reducible rfl
      rotate_left
      · simp only [Act.put, List.setIfInBounds_toArray, List.set_cons_zero, List.set_cons_succ, i64_w, i32_w]
        rfl
      refine take_ (i := 3) (N := some 26) (v := ?_) (a' := ?_) #[true, true, true, true, true, true, true, false, true, true, true, false, false, false, true, true, true, false, false, false, false] rfl rfl (by kernel_rfl) (fun _ _ _ h => h) (Or.inl ⟨by rfl, ?_⟩) hHeld ?_ ?_
      rotate_left
      · rintro w' ⟨s0, s1, s2, s3, s4⟩
        go_simp
        with_reducible rfl
      rotate_left
      · simp only [Act.put, List.setIfInBounds_toArray, List.set_cons_zero, List.set_cons_succ, i64_w, i32_w]
        rfl
      refine take_ (i := 7) (N := some 30) (v := ?_) (a' := ?_) #[true, true, true, true, true, true, true, true, true, true, true, false, false, false, true, true, true, false, false, false, false] rfl rfl (by kernel_rfl) (fun _ _ _ h => h) (Or.inl ⟨by rfl, ?_⟩) hHeld ?_ ?_
      rotate_left
      · rintro w' ⟨s0, s1, s2, s3, s4⟩
        go_simp
        with_reducible rfl
      rotate_left
      · simp only [Act.put, List.setIfInBounds_toArray, List.set_cons_zero, List.set_cons_succ, i64_w, i32_w]
        rfl
      refine take_ (i := 11) (N := some 34) (v := ?_) (a' := ?_) #[true, true, true, true, true, true, true, true, true, true, true, true, false, false, true, true, true, false, false, false, false] rfl rfl (by kernel_rfl) (fun _ _ _ h => h) (Or.inl ⟨by rfl, ?_⟩) hHeld ?_ ?_
      rotate_left
      · rintro w' ⟨s0, s1, s2, s3, s4⟩
        go_simp
        with_reducible rfl
      rotate_left
      · simp only [Act.put, List.setIfInBounds_toArray, List.set_cons_zero, List.set_cons_succ, i64_w, i32_w]
        rfl
      refine pure_ (i := 12) (N := some 35) (v := ?_) (a' := ?_) #[true, true, true, true, true, true, true, true, true, true, true, true, true, false, true, true, true, false, false, false, false] rfl rfl (by kernel_rfl) (fun _ _ _ h => h) (Or.inl ⟨by rfl, ?_⟩) ?_ ?_
      rotate_left
      · intro w'
        go_simp
        with_reducible rfl
      rotate_left
      · simp only [Act.put, List.setIfInBounds_toArray, List.set_cons_zero, List.set_cons_succ, i64_w, i32_w]
        rfl
      refine pure_ (i := 13) (N := some 36) (v := ?_) (a' := ?_) #[true, true, true, true, true, true, true, true, true, true, true, true, true, true, true, true, true, false, false, false, false] rfl rfl (by kernel_rfl) (fun _ _ _ h => h) (Or.inl ⟨by rfl, ?_⟩) ?_ ?_
      rotate_left
      · intro w'
        go_simp
        with_reducible rfl
      rotate_left
      · simp only [Act.put, List.setIfInBounds_toArray, List.set_cons_zero, List.set_cons_succ, i64_w, i32_w]
        rfl
      refine take_ (i := 17) (N := some 40) (v := ?_) (a' := ?_) #[true, true, true, true, true, true, true, true, true, true, true, true, true, true, true, true, true, true, false, false, false] rfl rfl (by kernel_rfl) (fun _ _ _ h => h) (Or.inl ⟨by rfl, ?_⟩) hHeld ?_ ?_
      rotate_left
      · rintro w' ⟨s0, s1, s2, s3, s4⟩
        go_simp
        with_reducible rfl
      rotate_left
      · simp only [Act.put, List.setIfInBounds_toArray, List.set_cons_zero, List.set_cons_succ, i64_w, i32_w]
        rfl
      refine pure_ (i := 18) (N := some 41) (v := ?_) (a' := ?_) #[true, true, true, true, true, true, true, true, true, true, true, true, true, true, true, true, true, true, true, false, false] rfl rfl (by kernel_rfl) (fun _ _ _ h => h) (Or.inl ⟨by rfl, ?_⟩) ?_ ?_
      rotate_left
      · intro w'
        go_simp
        with_reducible rfl
      rotate_left
      · simp only [Act.put, List.setIfInBounds_toArray, List.set_cons_zero, List.set_cons_succ, i64_w, i32_w]
        rfl
      refine one_ (i := 19) (N := some 42) #[true, true, true, true, true, true, true, true, true, true, true, true, true, true, true, true, true, true, true, true, false] rfl rfl (by kernel_rfl) (by decide) (fun K hK => ?_)
      refine goes_ Try.func27 (by kernel_rfl) rfl #[.int .i64 m.bytes, .int .i64 X] (by rfl) rfl rfl (by simp only [List.map_toArray, List.map_cons, List.map_nil]; rfl) ?_
      with_reducible refine (CU2.out _).mono ?_
      rintro e w3 ⟨rfl, hb⟩
      refine ⟨_, rfl, ?_⟩
      have hR3 := (hHeld.2.2.2.2.out).trans (hb.mono (hHeld.2.2.2.2.out).size)
      clear hb
      refine hK.out _ _ ⟨(H.out.below (hR3)).c5, (H.out.below (hR3)).c3, (H.out.below (hR3)).c2, (H.out.below (hR3)).c0, ⟨hR3⟩⟩ (fun hHeld => ?_)
      clear hK K
      refine norm_ (a' := ?_) ?_ ?_
      rotate_left
      · show Act.put _ (some 42) _ = _
        simp only [Act.put, List.setIfInBounds_toArray, List.set_cons_zero, List.set_cons_succ, i64_w, i32_w]
        rfl
      refine pure_ (i := 20) (N := some 2) (v := ?_) (a' := ?_) #[true, true, true, true, true, true, true, true, true, true, true, true, true, true, true, true, true, true, true, true, true] rfl rfl (by kernel_rfl) (fun _ _ _ h => h) (Or.inl ⟨by rfl, ?_⟩) ?_ ?_
      rotate_left
      · intro w'
        go_simp
        with_reducible rfl
      rotate_left
      · simp only [Act.put, List.setIfInBounds_toArray, List.set_cons_zero, List.set_cons_succ, i64_w, i32_w]
        rfl
      refine done_ (by kernel_rfl) ?_
      go_wp2_with fail
      go_ret
      exact ⟨by simp, by assumption⟩
    · go_wp2_with fail
      refine start_ (n := 10) (S := fun w' => w'.cell? ⟨g, 5, none⟩ = some (.int .i64 m.bytes) ∧ w'.cell? ⟨g, 0, none⟩ = some (.int .i64 m.window) ∧ Aside0 (Below w.heap.size w w')) (ds := []) #[false, false, false, false, false, false, false, false, false, false] (by kernel_rfl) rfl rfl ⟨(H.out.below (HB1.out.drew)).c5, (H.out.below (HB1.out.drew)).c0, ⟨HB1.out.drew⟩⟩ (fun hHeld => ?_)
      refine pure_ (i := 0) (N := some 14) (v := ?_) (a' := ?_) #[true, false, false, false, false, false, false, false, false, false] rfl rfl (by kernel_rfl) (fun _ _ _ h => h) (Or.inl ⟨by rfl, ?_⟩) ?_ ?_
      rotate_left
      · intro w'
        go_simp
        with_reducible rfl
      rotate_left
      · simp only [Act.put, List.setIfInBounds_toArray, List.set_cons_zero, List.set_cons_succ, i64_w, i32_w]
        rfl
      refine pure_ (i := 1) (N := some 15) (v := ?_) (a' := ?_) #[true, true, false, false, false, false, false, false, false, false] rfl rfl (by kernel_rfl) (fun _ _ _ h => h) (Or.inl ⟨by rfl, ?_⟩) ?_ ?_
      rotate_left
      · intro w'
        go_simp
        with_reducible rfl
      rotate_left
      · simp only [Act.put, List.setIfInBounds_toArray, List.set_cons_zero, List.set_cons_succ, i64_w, i32_w]
        rfl
      refine pure_ (i := 2) (N := some 16) (v := ?_) (a' := ?_) #[true, true, true, false, false, false, false, false, false, false] rfl rfl (by kernel_rfl) (fun _ _ _ h => h) (Or.inl ⟨by rfl, ?_⟩) ?_ ?_
      rotate_left
      · intro w'
        go_simp
        with_reducible rfl
      rotate_left
      · simp only [Act.put, List.setIfInBounds_toArray, List.set_cons_zero, List.set_cons_succ, i64_w, i32_w]
        rfl
      refine pure_ (i := 4) (N := some 18) (v := ?_) (a' := ?_) #[true, true, true, false, true, false, false, false, false, false] rfl rfl (by kernel_rfl) (fun _ _ _ h => h) (Or.inl ⟨by rfl, ?_⟩) ?_ ?_
      rotate_left
      · intro w'
        go_simp
        with_reducible rfl
      rotate_left
      · simp only [Act.put, List.setIfInBounds_toArray, List.set_cons_zero, List.set_cons_succ, i64_w, i32_w]
        rfl
      refine pure_ (i := 5) (N := some 19) (v := ?_) (a' := ?_) #[true, true, true, false, true, true, false, false, false, false] rfl rfl (by kernel_rfl) (fun _ _ _ h => h) (Or.inl ⟨by rfl, ?_⟩) ?_ ?_
      rotate_left
      · intro w'
        go_simp
        with_reducible rfl
      rotate_left
      · simp only [Act.put, List.setIfInBounds_toArray, List.set_cons_zero, List.set_cons_succ, i64_w, i32_w]
        rfl
      refine pure_ (i := 6) (N := some 20) (v := ?_) (a' := ?_) #[true, true, true, false, true, true, true, false, false, false] rfl rfl (by kernel_rfl) (fun _ _ _ h => h) (Or.inl ⟨by rfl, ?_⟩) ?_ ?_
      rotate_left
      · intro w'
        go_simp
        with_reducible rfl
      rotate_left
      · simp only [Act.put, List.setIfInBounds_toArray, List.set_cons_zero, List.set_cons_succ, i64_w, i32_w]
        rfl
      refine take_ (i := 3) (N := some 17) (v := ?_) (a' := ?_) #[true, true, true, true, true, true, true, false, false, false] rfl rfl (by kernel_rfl) (fun _ _ _ h => h) (Or.inl ⟨by rfl, ?_⟩) hHeld ?_ ?_
      rotate_left
      · rintro w' ⟨s0, s1, s2⟩
        go_simp
        with_reducible rfl
      rotate_left
      · simp only [Act.put, List.setIfInBounds_toArray, List.set_cons_zero, List.set_cons_succ, i64_w, i32_w]
        rfl
      refine take_ (i := 7) (N := some 21) (v := ?_) (a' := ?_) #[true, true, true, true, true, true, true, true, false, false] rfl rfl (by kernel_rfl) (fun _ _ _ h => h) (Or.inl ⟨by rfl, ?_⟩) hHeld ?_ ?_
      rotate_left
      · rintro w' ⟨s0, s1, s2⟩
        go_simp
        with_reducible rfl
      rotate_left
      · simp only [Act.put, List.setIfInBounds_toArray, List.set_cons_zero, List.set_cons_succ, i64_w, i32_w]
        rfl
      refine one_ (i := 8) (N := some 22) #[true, true, true, true, true, true, true, true, true, false] rfl rfl (by kernel_rfl) (by decide) (fun K hK => ?_)
      refine goes_ Try.func27 (by kernel_rfl) rfl #[.int .i64 m.bytes, .int .i64 m.window] (by rfl) rfl rfl (by simp only [List.map_toArray, List.map_cons, List.map_nil]; rfl) ?_
      with_reducible refine (CU1.out _).mono ?_
      rintro e w3 ⟨rfl, hb⟩
      refine ⟨_, rfl, ?_⟩
      have hR3 := (hHeld.2.2.out).trans (hb.mono (hHeld.2.2.out).size)
      clear hb
      refine hK.out _ _ ⟨(H.out.below (hR3)).c5, (H.out.below (hR3)).c0, ⟨hR3⟩⟩ (fun hHeld => ?_)
      clear hK K
      refine norm_ (a' := ?_) ?_ ?_
      rotate_left
      · show Act.put _ (some 22) _ = _
        simp only [Act.put, List.setIfInBounds_toArray, List.set_cons_zero, List.set_cons_succ, i64_w, i32_w]
        rfl
      refine pure_ (i := 9) (N := some 2) (v := ?_) (a' := ?_) #[true, true, true, true, true, true, true, true, true, true] rfl rfl (by kernel_rfl) (fun _ _ _ h => h) (Or.inl ⟨by rfl, ?_⟩) ?_ ?_
      rotate_left
      · intro w'
        go_simp
        with_reducible rfl
      rotate_left
      · simp only [Act.put, List.setIfInBounds_toArray, List.set_cons_zero, List.set_cons_succ, i64_w, i32_w]
        rfl
      refine done_ (by kernel_rfl) ?_
      go_wp2_with fail
      go_ret
      exact ⟨by simp, by assumption⟩
theorem mrate_any {w : World} {base g : Nat} {bs : Option Nat} {s : Mt} {k : Nat} (h : MtIs w base g bs s) (ho : MtOk s k) (hk : k ≤ 4096) : Calls Try.prog 14 #[.pointer (some ⟨g, 0, none⟩)] w fun e w' => e = .returned (.int .i64 s.rate) ∧ Below w.heap.size w w' := by
  have hf := mfull_any h ho
  obtain ⟨l, vl, vs, _, _, _, h4⟩ := h
  have hs := ho.sum
  obtain ⟨q1, q2, q3, q4, q5, _⟩ := ho
  have i1 : I64 (sumS s.l) := ⟨by omega, by omega⟩
  have i2 : I64 (min (max (s.last - s.first) 1000) s.window) := ⟨by omega, by omega⟩
  have := mrate_walk w base g bs _ l s.ls (min (max (s.last - s.first) 1000) s.window) _ _ (decide (s.window ≤ s.last - s.first)) ⟨h4⟩ ⟨hf⟩ ⟨fun w => urate_any _ s.window i1 ⟨by omega, by omega⟩ w⟩ ⟨fun w => urate_any _ _ i1 i2 w⟩ (by rw [show wrap64 (s.last - s.first) = s.last - s.first by unfold wrap64; omega])
  refine this.mono ?_
  rintro e w' ⟨he, hb⟩
  refine ⟨he.trans ?_, hb⟩
  unfold Mt.rate Mt.full
  dsimp only
  cases s.any <;> simp
theorem mrate_nil (w : World) : Calls Try.prog 14 #[.pointer none] w fun e w' => e = .returned (.int .i64 0) ∧ w' = w := by
  go_enter Try.func14, Try.ntmps14
  go_wp2
  go_ret
  exact ⟨rfl, rfl⟩
theorem MwRun.app {w0 w w5 : World} {base g : Nat} {bs : Option Nat} {m : Mw} {l : List Smp} {ls ls2 : List Bool} (h : MwRun w0 w base g bs m l ls) (hbs : m.vs.ownBlock = bs) (hG : w.grownBy w5 m.vs.ownBlock) {v : Value} (hv : RowV w5 base 4 1 v ls2.length (boolV ls2)) : MwRun w0 (w5.setCell ⟨g, 6, none⟩ v) base g bs { m with vs := v } l ls2 := by
  have h5 := blk_grown h.c hG (fun e => h.rs.ne h.c (by decide) e.symm)
  have hl : RowV w5 base 56 2 m.vl l.length (smpV l) := h.rl.keep (fun k hk hb hs => hG.block k (h.rl.lt hk).1 (fun e => by
    have := (h.rs.lt e.symm).2.2
    rw [hs] at this
    exact absurd this (by decide)))
  exact ⟨(blk_set h5 6 _).trans (by simp), h.b, row_setCell hl h5 (by decide) 6 _, row_setCell hv h5 (by decide) 6 _, (h.t.grown hG (fun k hk => .inl (.inr (by rw [← hbs]; exact hk)))).setCell (.inl (.inl rfl)) _⟩
theorem new_news (w : World) (cs : List Value) (t : TypeId) : ∀ j u, cs[j]? = some u → (w.alloc (.cells cs.toArray t)).cell? ((⟨w.heap.size, 0, none⟩ : Addr).add j) = some u := by
  intro j u h
  rw [Addr.add_lit, Nat.zero_add, blk_cell (blk_new w _) j]
  simpa using h
set_option maxHeartbeats 4000000 in
theorem mpassed_walk (w : World) (base g : Nat) (bs : Option Nat) (window first last bytes : Int) (any b : Bool) (vl vs : Value) (l : List Smp) (ls : List Bool) (hbs : vs.ownBlock = bs) (h : MwRun w w base g bs ⟨window, any, first, last, vl, bytes, vs⟩ l ls) (hl : ls.length ≤ 64) :
    Calls Try.prog 25 #[.pointer (some ⟨g, 0, none⟩), .bool b] w fun e w' => e = .returned (.tuple #[]) ∧ ∃ vs', MwRun w w' base g bs ⟨window, any, first, last, vl, bytes, vs'⟩ l (Mt.push ls b) ∧ (∀ k, vs'.ownBlock = some k → bs = some k ∨ w.heap.size ≤ k) := by
  have h6 := h.c6
  dsimp only at h6
  have hlt := blk_lt h.c
  have H := Aside0.mk h
  obtain ⟨n, hn⟩ : ∃ n, n = ls.length := ⟨_, rfl⟩
  have HN := Aside0.mk hn
  have hn64 : n ≤ 64 := by omega
  clear h hl hn
  go_enter Try.func25, Try.ntmps25
  have HW := Aside0.mk (H.out.below ((Below.refl _ _).alloc (Nat.le_refl _) (.cells #[.bool b] 4)))
  go_wp2_with (at_builtin; go_loud (refine row_append (w := w.alloc (.cells #[.bool b] 4)) rfl (.tmp 9) (.tmp 11) 48 rfl 4 Try.t4 (.bool false) 1 1 Try.underlying48 (by kernel_rfl) rfl rfl rfl (by decide) (by decide) base vs n (boolV ls) rfl (by rw [HN.out]; exact HW.out.rs) ⟨w.heap.size, 0, none⟩ 1 1 [.bool b] rfl rfl (new_news w [.bool b] 4) (by simp [Value.oneCell']) (by simp only [maxLen]; omega) (by omega) (by have := H.out.b; simp; omega) ?_); intro v1 w5 hR5 hG5 hO5 hF5; obtain ⟨g5, off5, c5, rfl, hb5, hn5, hc5, _⟩ := hR5.some_ (by omega); have h5 := blk_grown HW.out.c hG5 (fun e => HW.out.rs.ne HW.out.c (by decide) e.symm); have u6 := blk_frozen h5 6; have u8 := blk_cell h5 6; simp only [List.getElem?_toArray, List.getElem?_cons_zero, List.getElem?_cons_succ] at u8; have HR5 := Aside0.mk hR5; have HG5 := Aside0.mk hG5; have HO5 := Aside0.mk hO5; have HH5 := Aside0.mk h5; clear hR5 hG5 hO5 hF5 h5)
  · go_end0
    have hn : ls.length = n := HN.out.symm
    have hv0 : RowV w5 base 4 1 (.slice (some ⟨g5, off5, none⟩) (n + 1) c5) (ls ++ [b]).length (boolV (ls ++ [b])) := by
      rw [List.length_append, List.length_singleton, hn, boolV_append]
      exact HR5.out
    have h1 := HW.out.app hbs HG5.out hv0
    have hv1 := (row_setCell HR5.out HH5.out (by decide) 6 (.slice (some ⟨g5, off5, none⟩) (n + 1) c5)).cut (n - 63) (n + 1) (n + 1) (by omega) (by omega) (by omega) (by omega) (off5 + (n - 63)) (.inl (by omega))
    have e : (List.drop ((n - 63) * 1) (boolV ls ++ [.bool b])).take ((n + 1 - (n - 63)) * 1) = boolV (Mt.push ls b) := by
      unfold Mt.push
      rw [hn, show boolV ls ++ [.bool b] = boolV (ls ++ [b]) from (boolV_append ls [b]).symm, Nat.mul_one, Nat.mul_one, boolV_drop, show n + 1 - 64 = n - 63 by omega]
      refine List.take_of_length_le ?_
      rw [boolV_length, List.length_drop, List.length_append, hn, List.length_singleton]
      omega
    have el : (Mt.push ls b).length = n + 1 - (n - 63) := by
      unfold Mt.push
      rw [List.length_drop, List.length_append, hn, List.length_singleton]
      omega
    rw [e] at hv1
    refine ⟨rfl, _, h1.s6 (by rw [el]; exact hv1), fun k hk => ?_⟩
    rcases HO5.out k hk with q | q
    · exact .inl (hbs ▸ q)
    · exact .inr (by have : w.heap.size ≤ (w.alloc (Obj.cells #[Value.bool b] 4)).heap.size := by simp
                     omega)
  · go_end0
    have hn : ls.length = n := HN.out.symm
    have hv0 : RowV w5 base 4 1 (.slice (some ⟨g5, off5, none⟩) (n + 1) c5) (Mt.push ls b).length (boolV (Mt.push ls b)) := by
      have e : Mt.push ls b = ls ++ [b] := by
        unfold Mt.push
        rw [hn, show n + 1 - 64 = 0 by omega, List.drop_zero]
      rw [e, List.length_append, List.length_singleton, hn, boolV_append]
      exact HR5.out
    refine ⟨rfl, _, HW.out.app hbs HG5.out hv0, fun k hk => ?_⟩
    rcases HO5.out k hk with q | q
    · exact .inl (hbs ▸ q)
    · exact .inr (by have : w.heap.size ≤ (w.alloc (Obj.cells #[Value.bool b] 4)).heap.size := by simp
                     omega)
theorem mpassed_any {w : World} {base g : Nat} {bs : Option Nat} {s : Mt} (b : Bool) (h : MtIs w base g bs s) (hl : s.ls.length ≤ 64) : Calls Try.prog 25 #[.pointer (some ⟨g, 0, none⟩), .bool b] w fun e w' => e = .returned (.tuple #[]) ∧ MtGo w w' base g bs (s.pushed b) := by
  obtain ⟨l, vl, vs, h1, h2, h3, h4⟩ := h
  refine (mpassed_walk w base g bs _ _ _ _ _ b vl vs l s.ls h3 h4 hl).mono ?_
  rintro e w' ⟨he, vs', k1, k2⟩
  exact ⟨he, _, ⟨l, vl, vs', h1, h2, rfl, ⟨k1.c, k1.b, k1.rl, k1.rs, Touch.refl _ _⟩⟩, k1.t, k2⟩
def LostRel (w : World) (base g : Nat) (bs : Option Nat) (s : Mt) (n : Nat) (v : Value) (wr : World) : Prop := ∃ j : Nat, v = .int .i64 j ∧ j ≤ n ∧ Aside0 (MtGo w wr base g bs (s.lostN j))
set_option maxHeartbeats 4000000 in
theorem mlost_good {w : World} {base g : Nat} {bs : Option Nat} {s : Mt} {k : Nat} (n : Nat) (h : MtIs w base g bs s) (ho : MtOk s k) (hn : n ≤ 4096) : Calls Try.prog 12 #[.pointer (some ⟨g, 0, none⟩), .int .i64 (n : Int)] w fun e w' => e = .returned (.tuple #[]) ∧ MtGo w w' base g bs (s.lostN n) := by
  have HI := Aside0.mk h
  have HO := Aside0.mk ho
  have d1 : decide ((n : Int) < 0) = false := decide_eq_false (by omega)
  have d2 : decide (4096 < (n : Int)) = false := decide_eq_false (by omega)
  clear h ho
  go_enter Try.func12, Try.ntmps12
  go_wp2_with fail
  go_loopw [15] (fun v wr => LostRel w base g bs s n v wr) (fun v _ => n - (intOf v).toNat)
  case atStart => exact ⟨0, rfl, by omega, ⟨MtGo.refl HI.out⟩⟩
  case round =>
    obtain ⟨j, rfl, hj, hG⟩ := hrel
    by_cases hlt : j < n
    · have q1 : decide ((j : Int) < (n : Int)) = true := by simp; omega
      obtain ⟨bs1, g1, g2, g3⟩ := hG.out
      go_wp2_with fail
      refine (mpassed_any true g1 ((HO.out.lostN j).lsn)).mono ?_
      rintro e w2 ⟨rfl, hg2⟩
      rw [lostN_succ] at hg2
      have HG2 : Aside0 (MtGo w w2 base g bs (s.lostN (j + 1))) := ⟨MtGo.then_ g2 g3 hg2⟩
      go_wp2_with fail
      exact ⟨⟨j + 1, by simp, by omega, HG2⟩, by simp [intOf]; omega⟩
    · have q1 : decide ((j : Int) < (n : Int)) = false := by simp; omega
      have e : j = n := by omega
      subst e
      go_wp2_with fail
      go_end0
      exact ⟨rfl, hG.out⟩
theorem mlost_bad {w : World} {A : Option Addr} (n : Int) (h : n < 0 ∨ 4096 < n) : Calls Try.prog 12 #[.pointer A, .int .i64 n] w fun e w' => e = .returned (.tuple #[]) ∧ w' = w := by
  cases A
  · go_enter Try.func12, Try.ntmps12
    go_wp2
    (try simp only [Exit.inBlock, Exit.then]); refine bodyPost_ret (results_none rfl _ _ _) rfl ?_
    exact ⟨rfl, rfl⟩
  · rcases h with h | h
    all_goals
      go_enter Try.func12, Try.ntmps12
      go_wp2_with fail
      all_goals ((try simp only [Exit.inBlock, Exit.then]); refine bodyPost_ret (results_none rfl _ _ _) rfl ?_)
      all_goals exact ⟨rfl, rfl⟩
theorem mlost_nil (n : Int) (w : World) : Calls Try.prog 12 #[.pointer none, .int .i64 n] w fun e w' => e = .returned (.tuple #[]) ∧ w' = w := by
  go_enter Try.func12, Try.ntmps12
  go_wp2
  (try simp only [Exit.inBlock, Exit.then]); refine bodyPost_ret (results_none rfl _ _ _) rfl ?_
  exact ⟨rfl, rfl⟩
end Go.Proofs.Ytpmbacgdbnfeeaa.B
