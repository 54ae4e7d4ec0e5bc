/-
  The second controller: its ramp, its gradual way, and what it does with what is told. Walk over the program.
-/
import Derived.Test.YtbdnbndmiekejaaDoorVb
import Derived.Test.YtbdnbndmiekejaaDoorSm
namespace Go.Proofs.YtbdnbndmiekejaaDoor.B
open Go.RowKit Go.Proofs.YtbdnbndmiekejaaDoorW.PrintWords Go.Proofs.YtbdnbndmiekejaaDoorW.PrintLast Go.Proofs.YtbdnbndmiekejaaDoorW.PrintMore
set_option linter.unusedVariables false
set_option linter.unusedSimpArgs false
theorem NdRun.c0 {w0 w : World} {g : Nat} {s : Nd} (h : NdRun w0 w g s) : w.cell? ⟨g, 0, none⟩ = some (.int .i64 s.rate) := by
  have := blk_cell h.1 0
  simp only [List.getElem?_toArray, List.getElem?_cons_zero, List.getElem?_cons_succ] at this
  exact this
theorem NdRun.c1 {w0 w : World} {g : Nat} {s : Nd} (h : NdRun w0 w g s) : w.cell? ⟨g, 1, none⟩ = some (.int .i64 s.lo) := by
  have := blk_cell h.1 1
  simp only [List.getElem?_toArray, List.getElem?_cons_zero, List.getElem?_cons_succ] at this
  exact this
theorem NdRun.c2 {w0 w : World} {g : Nat} {s : Nd} (h : NdRun w0 w g s) : w.cell? ⟨g, 2, none⟩ = some (.int .i64 s.hi) := by
  have := blk_cell h.1 2
  simp only [List.getElem?_toArray, List.getElem?_cons_zero, List.getElem?_cons_succ] at this
  exact this
theorem NdRun.c3 {w0 w : World} {g : Nat} {s : Nd} (h : NdRun w0 w g s) : w.cell? ⟨g, 3, none⟩ = some (.int .i64 s.sig) := by
  have := blk_cell h.1 3
  simp only [List.getElem?_toArray, List.getElem?_cons_zero, List.getElem?_cons_succ] at this
  exact this
theorem NdRun.c4 {w0 w : World} {g : Nat} {s : Nd} (h : NdRun w0 w g s) : w.cell? ⟨g, 4, none⟩ = some (.bool s.any) := by
  have := blk_cell h.1 4
  simp only [List.getElem?_toArray, List.getElem?_cons_zero, List.getElem?_cons_succ] at this
  exact this
theorem NdRun.c5 {w0 w : World} {g : Nat} {s : Nd} (h : NdRun w0 w g s) : w.cell? ⟨g, 5, none⟩ = some (.int .i64 s.last) := by
  have := blk_cell h.1 5
  simp only [List.getElem?_toArray, List.getElem?_cons_zero, List.getElem?_cons_succ] at this
  exact this
theorem NdRun.c6 {w0 w : World} {g : Nat} {s : Nd} (h : NdRun w0 w g s) : w.cell? ⟨g, 6, none⟩ = some (.bool s.ramps) := by
  have := blk_cell h.1 6
  simp only [List.getElem?_toArray, List.getElem?_cons_zero, List.getElem?_cons_succ] at this
  exact this
theorem NdRun.n0 {w0 w : World} {g : Nat} {s : Nd} (h : NdRun w0 w g s) : w.cell? ⟨0, 0, none⟩ = some (.int .i64 50000) := h.tabs.2.1
theorem NdRun.n1 {w0 w : World} {g : Nat} {s : Nd} (h : NdRun w0 w g s) : w.cell? ⟨0, 1, none⟩ = some (.int .i64 10000) := h.tabs.2.2.1
theorem NdRun.n2 {w0 w : World} {g : Nat} {s : Nd} (h : NdRun w0 w g s) : w.cell? ⟨0, 2, none⟩ = some (.int .i64 500000) := h.tabs.2.2.2.1
theorem NdRun.n3 {w0 w : World} {g : Nat} {s : Nd} (h : NdRun w0 w g s) : w.cell? ⟨0, 3, none⟩ = some (.int .i64 100000) := h.tabs.2.2.2.2.1
theorem NdRun.n4 {w0 w : World} {g : Nat} {s : Nd} (h : NdRun w0 w g s) : w.cell? ⟨0, 4, none⟩ = some (.int .i64 100000) := h.tabs.2.2.2.2.2.1
theorem NdRun.n5 {w0 w : World} {g : Nat} {s : Nd} (h : NdRun w0 w g s) : w.cell? ⟨0, 5, none⟩ = some (.int .i64 3) := h.tabs.2.2.2.2.2.2.1
theorem NdRun.n6 {w0 w : World} {g : Nat} {s : Nd} (h : NdRun w0 w g s) : w.cell? ⟨0, 6, none⟩ = some (.int .i64 10000) := h.tabs.2.2.2.2.2.2.2.1
theorem NdRun.n7 {w0 w : World} {g : Nat} {s : Nd} (h : NdRun w0 w g s) : w.cell? ⟨0, 7, none⟩ = some (.int .i64 50000) := h.tabs.2.2.2.2.2.2.2.2.1
theorem NdRun.n8 {w0 w : World} {g : Nat} {s : Nd} (h : NdRun w0 w g s) : w.cell? ⟨0, 8, none⟩ = some (.int .i64 2) := h.tabs.2.2.2.2.2.2.2.2.2.1
theorem NdRun.n9 {w0 w : World} {g : Nat} {s : Nd} (h : NdRun w0 w g s) : w.cell? ⟨0, 9, none⟩ = some (.int .i64 20000) := h.tabs.2.2.2.2.2.2.2.2.2.2
theorem NdRun.f0 {w0 w : World} {g : Nat} {s : Nd} (h : NdRun w0 w g s) : w.frozen? ⟨g, 0, none⟩ = false := blk_frozen h.1 0
theorem NdRun.f1 {w0 w : World} {g : Nat} {s : Nd} (h : NdRun w0 w g s) : w.frozen? ⟨g, 1, none⟩ = false := blk_frozen h.1 1
theorem NdRun.f2 {w0 w : World} {g : Nat} {s : Nd} (h : NdRun w0 w g s) : w.frozen? ⟨g, 2, none⟩ = false := blk_frozen h.1 2
theorem NdRun.f3 {w0 w : World} {g : Nat} {s : Nd} (h : NdRun w0 w g s) : w.frozen? ⟨g, 3, none⟩ = false := blk_frozen h.1 3
theorem NdRun.f4 {w0 w : World} {g : Nat} {s : Nd} (h : NdRun w0 w g s) : w.frozen? ⟨g, 4, none⟩ = false := blk_frozen h.1 4
theorem NdRun.f5 {w0 w : World} {g : Nat} {s : Nd} (h : NdRun w0 w g s) : w.frozen? ⟨g, 5, none⟩ = false := blk_frozen h.1 5
theorem NdRun.f6 {w0 w : World} {g : Nat} {s : Nd} (h : NdRun w0 w g s) : w.frozen? ⟨g, 6, none⟩ = false := blk_frozen h.1 6
theorem NdRun.drewn {w0 w : World} {g : Nat} {s : Nd} (h : NdRun w0 w g s) : NdRun w0 w.drew g s := h.below (Below.refl _ _).drew
theorem NdRun.s0 {w0 w : World} {g : Nat} {s : Nd} (h : NdRun w0 w g s) (x : Int) : NdRun w0 (w.setCell ⟨g, 0, none⟩ (.int .i64 x)) g { s with rate := x } := h.set 0 _ ((blk_set h.1 0 _).trans (by simp))
theorem NdRun.s1 {w0 w : World} {g : Nat} {s : Nd} (h : NdRun w0 w g s) (x : Int) : NdRun w0 (w.setCell ⟨g, 1, none⟩ (.int .i64 x)) g { s with lo := x } := h.set 1 _ ((blk_set h.1 1 _).trans (by simp))
theorem NdRun.s2 {w0 w : World} {g : Nat} {s : Nd} (h : NdRun w0 w g s) (x : Int) : NdRun w0 (w.setCell ⟨g, 2, none⟩ (.int .i64 x)) g { s with hi := x } := h.set 2 _ ((blk_set h.1 2 _).trans (by simp))
theorem NdRun.s3 {w0 w : World} {g : Nat} {s : Nd} (h : NdRun w0 w g s) (x : Int) : NdRun w0 (w.setCell ⟨g, 3, none⟩ (.int .i64 x)) g { s with sig := x } := h.set 3 _ ((blk_set h.1 3 _).trans (by simp))
theorem NdRun.s4 {w0 w : World} {g : Nat} {s : Nd} (h : NdRun w0 w g s) (x : Bool) : NdRun w0 (w.setCell ⟨g, 4, none⟩ (.bool x)) g { s with any := x } := h.set 4 _ ((blk_set h.1 4 _).trans (by simp))
theorem NdRun.s5 {w0 w : World} {g : Nat} {s : Nd} (h : NdRun w0 w g s) (x : Int) : NdRun w0 (w.setCell ⟨g, 5, none⟩ (.int .i64 x)) g { s with last := x } := h.set 5 _ ((blk_set h.1 5 _).trans (by simp))
theorem NdRun.s6 {w0 w : World} {g : Nat} {s : Nd} (h : NdRun w0 w g s) (x : Bool) : NdRun w0 (w.setCell ⟨g, 6, none⟩ (.bool x)) g { s with ramps := x } := h.set 6 _ ((blk_set h.1 6 _).trans (by simp))
set_option maxHeartbeats 2000000 in
theorem ramp_walk (w0 w : World) (g : Nat) (rate lo hi sig last got rtt V2 V3 GAM G2 V4 V5 V6 TO R : Int) (any ramps : Bool) (H : Aside0 (NdRun w0 w g ⟨rate, lo, hi, sig, any, last, ramps⟩)) (r0 : 1 ≤ rate) (r1 : rate ≤ 17179869184)
    (e1 : min 2147483648 V3 = GAM) (e2 : min got 1073741824 = G2) (e3 : max rate V6 = TO) (e4 : min TO (3 * rate / 2 + 10000) = R)
    (C1 : Aside0 (∀ w, Calls Tryd.prog 19 #[.int .i64 50000] w fun e w' => e = .returned (.int .i64 214748364800000) ∧ Below w.heap.size w w'))
    (C2 : Aside0 (∀ w, Calls Tryd.prog 19 #[.int .i64 (wrap64 (rtt + 100000))] w fun e w' => e = .returned (.int .i64 V2) ∧ Below w.heap.size w w'))
    (C3 : Aside0 (∀ w, Calls Tryd.prog 18 #[.int .i64 214748364800000, .int .i64 V2] w fun e w' => e = .returned (.int .i64 V3) ∧ Below w.heap.size w w'))
    (C4 : Aside0 (∀ w, Calls Tryd.prog 19 #[.int .i64 G2] w fun e w' => e = .returned (.int .i64 V4) ∧ Below w.heap.size w w'))
    (C5 : Aside0 (∀ w, Calls Tryd.prog 21 #[.int .i64 V4, .int .i64 (wrap64 (4294967296 + GAM))] w fun e w' => e = .returned (.int .i64 V5) ∧ Below w.heap.size w w'))
    (C6 : Aside0 (∀ w, Calls Tryd.prog 20 #[.int .i64 V5] w fun e w' => e = .returned (.int .i64 V6) ∧ Below w.heap.size w w')) :
    Calls Tryd.prog 24 #[.pointer (some ⟨g, 0, none⟩), .int .i64 got, .int .i64 rtt] w fun e w' => e = .returned (.tuple #[]) ∧ NdRun w0 w' g ⟨R, lo, hi, sig, any, last, ramps⟩ := by
  go_enter Tryd.func24, Tryd.ntmps24
  go_wp2_with fail
  refine start_ (n := 11) (S := fun w' => w'.cell? ⟨0, 3, none⟩ = some (.int .i64 100000) ∧ w'.cell? ⟨0, 7, none⟩ = some (.int .i64 50000) ∧ Aside0 (NdRun w0 w' g ⟨rate, lo, hi, sig, any, last, ramps⟩)) (ds := []) #[false, false, false, false, false, false, false, false, false, false, false] (by kernel_rfl) rfl rfl ⟨(H.out.drewn).n3, (H.out.drewn).n7, ⟨H.out.drewn⟩⟩ (fun hHeld => ?_)
  refine pure_ (i := 0) (N := some 8) (v := ?_) (a' := ?_) #[true, false, false, false, false, false, false, false, false, false, false] rfl rfl (by kernel_rfl) (fun _ _ _ h => h) (Or.inl ⟨by rfl, ?_⟩) ?_ ?_
  rotate_left
  · intro w'
    go_simp
    with_reducible rfl
  rotate_left
  · simp only [Act.put, List.setIfInBounds_toArray, List.set_cons_zero, List.set_cons_succ, i64_w, i32_w]
    rfl
  refine pure_ (i := 3) (N := some 11) (v := ?_) (a' := ?_) #[true, false, false, true, false, false, false, false, false, false, false] rfl rfl (by kernel_rfl) (fun _ _ _ h => h) (Or.inl ⟨by rfl, ?_⟩) ?_ ?_
  rotate_left
  · intro w'
    go_simp
    with_reducible rfl
  rotate_left
  · simp only [Act.put, List.setIfInBounds_toArray, List.set_cons_zero, List.set_cons_succ, i64_w, i32_w]
    rfl
  refine pure_ (i := 4) (N := some 12) (v := ?_) (a' := ?_) #[true, false, false, true, true, false, false, false, false, false, false] rfl rfl (by kernel_rfl) (fun _ _ _ h => h) (Or.inl ⟨by rfl, ?_⟩) ?_ ?_
  rotate_left
  · intro w'
    go_simp
    with_reducible rfl
  rotate_left
  · simp only [Act.put, List.setIfInBounds_toArray, List.set_cons_zero, List.set_cons_succ, i64_w, i32_w]
    rfl
  refine take_ (i := 1) (N := some 9) (v := ?_) (a' := ?_) #[true, true, false, true, true, false, false, false, false, false, false] rfl rfl (by kernel_rfl) (fun _ _ _ h => h) (Or.inl ⟨by rfl, ?_⟩) hHeld ?_ ?_
  rotate_left
  · rintro w' ⟨s0, s1, s2⟩
    go_simp
    with_reducible rfl
  rotate_left
  · simp only [Act.put, List.setIfInBounds_toArray, List.set_cons_zero, List.set_cons_succ, i64_w, i32_w]
    rfl
  refine take_ (i := 5) (N := some 13) (v := ?_) (a' := ?_) #[true, true, false, true, true, true, false, false, false, false, false] rfl rfl (by kernel_rfl) (fun _ _ _ h => h) (Or.inl ⟨by rfl, ?_⟩) hHeld ?_ ?_
  rotate_left
  · rintro w' ⟨s0, s1, s2⟩
    go_simp
    with_reducible rfl
  rotate_left
  · simp only [Act.put, List.setIfInBounds_toArray, List.set_cons_zero, List.set_cons_succ, i64_w, i32_w]
    rfl
  refine pure_ (i := 6) (N := some 14) (v := ?_) (a' := ?_) #[true, true, false, true, true, true, true, false, false, false, false] rfl rfl (by kernel_rfl) (fun _ _ _ h => h) (Or.inl ⟨by rfl, ?_⟩) ?_ ?_
  rotate_left
  · intro w'
    go_simp
    with_reducible rfl
  rotate_left
  · simp only [Act.put, List.setIfInBounds_toArray, List.set_cons_zero, List.set_cons_succ, i64_w, i32_w]
    rfl
  refine one_ (i := 2) (N := some 10) #[true, true, true, true, true, true, true, false, false, false, false] rfl rfl (by kernel_rfl) (by decide) (fun K hK => ?_)
  refine goes_ Tryd.func19 (by kernel_rfl) rfl #[.int .i64 50000] (by rfl) rfl rfl (by simp only [List.map_toArray, List.map_cons, List.map_nil]; rfl) ?_
  with_reducible refine (C1.out _).mono ?_
  rintro e w3 ⟨rfl, hb⟩
  refine ⟨_, rfl, ?_⟩
  have hR3 := (hHeld.2.2.out).below hb
  clear hb
  refine hK.out _ _ ⟨(hR3).n3, (hR3).n7, ⟨hR3⟩⟩ (fun hHeld => ?_)
  clear hK K
  refine norm_ (a' := ?_) ?_ ?_
  rotate_left
  · show Act.put _ (some 10) _ = _
    simp only [Act.put, List.setIfInBounds_toArray, List.set_cons_zero, List.set_cons_succ, i64_w, i32_w]
    rfl
  refine one_ (i := 7) (N := some 15) #[true, true, true, true, true, true, true, true, false, false, false] rfl rfl (by kernel_rfl) (by decide) (fun K hK => ?_)
  refine goes_ Tryd.func19 (by kernel_rfl) rfl #[.int .i64 (wrap64 (rtt + 100000))] (by rfl) rfl rfl (by simp only [List.map_toArray, List.map_cons, List.map_nil]; rfl) ?_
  with_reducible refine (C2.out _).mono ?_
  rintro e w3 ⟨rfl, hb⟩
  refine ⟨_, rfl, ?_⟩
  have hR3 := (hHeld.2.2.out).below hb
  clear hb
  refine hK.out _ _ ⟨(hR3).n3, (hR3).n7, ⟨hR3⟩⟩ (fun hHeld => ?_)
  clear hK K
  refine norm_ (a' := ?_) ?_ ?_
  rotate_left
  · show Act.put _ (some 15) _ = _
    simp only [Act.put, List.setIfInBounds_toArray, List.set_cons_zero, List.set_cons_succ, i64_w, i32_w]
    rfl
  refine one_ (i := 8) (N := some 16) #[true, true, true, true, true, true, true, true, true, false, false] rfl rfl (by kernel_rfl) (by decide) (fun K hK => ?_)
  refine goes_ Tryd.func18 (by kernel_rfl) rfl #[.int .i64 214748364800000, .int .i64 V2] (by rfl) rfl rfl (by simp only [List.map_toArray, List.map_cons, List.map_nil]; rfl) ?_
  with_reducible refine (C3.out _).mono ?_
  rintro e w3 ⟨rfl, hb⟩
  refine ⟨_, rfl, ?_⟩
  have hR3 := (hHeld.2.2.out).below hb
  clear hb
  refine hK.out _ _ ⟨(hR3).n3, (hR3).n7, ⟨hR3⟩⟩ (fun hHeld => ?_)
  clear hK K
  refine norm_ (a' := ?_) ?_ ?_
  rotate_left
  · show Act.put _ (some 16) _ = _
    simp only [Act.put, List.setIfInBounds_toArray, List.set_cons_zero, List.set_cons_succ, i64_w, i32_w]
    rfl
  refine pure_ (i := 9) (N := some 17) (v := ?_) (a' := ?_) #[true, true, true, true, true, true, true, true, true, true, false] rfl rfl (by kernel_rfl) (fun _ _ _ h => h) (Or.inl ⟨by rfl, ?_⟩) ?_ ?_
  rotate_left
  · intro w'
    go_simp
    with_reducible rfl
  rotate_left
  · simp only [Act.put, List.setIfInBounds_toArray, List.set_cons_zero, List.set_cons_succ, i64_w, i32_w]
    rfl
  refine pure_ (i := 10) (N := some 6) (v := ?_) (a' := ?_) #[true, true, true, true, true, true, true, true, true, true, true] rfl rfl (by kernel_rfl) (fun _ _ _ h => h) (Or.inl ⟨by rfl, ?_⟩) ?_ ?_
  rotate_left
  · intro w'
    go_simp
    with_reducible rfl
  rotate_left
  · simp only [Act.put, List.setIfInBounds_toArray, List.set_cons_zero, List.set_cons_succ, i64_w, i32_w]
    rfl
  refine done_ (by kernel_rfl) ?_
  have H1 := hHeld.2.2
  clear hHeld
  go_wp2_with fail
  refine start_ (n := 13) (S := fun w' => w'.cell? ⟨g, 0, none⟩ = some (.int .i64 rate) ∧ Aside0 (NdRun w0 w' g ⟨rate, lo, hi, sig, any, last, ramps⟩)) (ds := []) #[false, false, false, false, false, false, false, false, false, false, false, false, false] (by kernel_rfl) rfl rfl ⟨(H1.out.drewn).c0, ⟨H1.out.drewn⟩⟩ (fun hHeld => ?_)
  refine pure_ (i := 0) (N := some 18) (v := ?_) (a' := ?_) #[true, false, false, false, false, false, false, false, false, false, false, false, false] rfl rfl (by kernel_rfl) (fun _ _ _ h => h) (Or.inl ⟨by rfl, ?_⟩) ?_ ?_
  rotate_left
  · intro w'
    go_simp
    with_reducible rfl
  rotate_left
  · simp only [Act.put, List.setIfInBounds_toArray, List.set_cons_zero, List.set_cons_succ, i64_w, i32_w]
    rfl
  refine pure_ (i := 1) (N := some 19) (v := ?_) (a' := ?_) #[true, true, false, false, false, false, false, false, false, false, false, false, false] rfl rfl (by kernel_rfl) (fun _ _ _ h => h) (Or.inl ⟨by rfl, ?_⟩) ?_ ?_
  rotate_left
  · intro w'
    go_simp
    with_reducible rfl
  rotate_left
  · simp only [Act.put, List.setIfInBounds_toArray, List.set_cons_zero, List.set_cons_succ, i64_w, i32_w]
    rfl
  refine pure_ (i := 2) (N := some 20) (v := ?_) (a' := ?_) #[true, true, true, false, false, false, false, false, false, false, false, false, false] rfl rfl (by kernel_rfl) (fun _ _ _ h => h) (Or.inl ⟨by rfl, ?_⟩) ?_ ?_
  rotate_left
  · intro w'
    go_simp
    with_reducible rfl
  rotate_left
  · simp only [Act.put, List.setIfInBounds_toArray, List.set_cons_zero, List.set_cons_succ, i64_w, i32_w]
    rfl
  refine pure_ (i := 4) (N := some 22) (v := ?_) (a' := ?_) #[true, true, true, false, true, false, false, false, false, false, false, false, false] rfl rfl (by kernel_rfl) (fun _ _ _ h => h) (Or.inl ⟨by rfl, ?_⟩) ?_ ?_
  rotate_left
  · intro w'
    go_simp
    with_reducible rfl
  rotate_left
  · simp only [Act.put, List.setIfInBounds_toArray, List.set_cons_zero, List.set_cons_succ, i64_w, i32_w]
    rfl
  refine pure_ (i := 5) (N := some 23) (v := ?_) (a' := ?_) #[true, true, true, false, true, true, false, false, false, false, false, false, false] rfl rfl (by kernel_rfl) (fun _ _ _ h => h) (Or.inl ⟨by rfl, ?_⟩) ?_ ?_
  rotate_left
  · intro w'
    go_simp
    with_reducible rfl
  rotate_left
  · simp only [Act.put, List.setIfInBounds_toArray, List.set_cons_zero, List.set_cons_succ, i64_w, i32_w]
    rfl
  refine pure_ (i := 7) (N := some 25) (v := ?_) (a' := ?_) #[true, true, true, false, true, true, false, true, false, false, false, false, false] rfl rfl (by kernel_rfl) (fun _ _ _ h => h) (Or.inl ⟨by rfl, ?_⟩) ?_ ?_
  rotate_left
  · intro w'
    go_simp
    with_reducible rfl
  rotate_left
  · simp only [Act.put, List.setIfInBounds_toArray, List.set_cons_zero, List.set_cons_succ, i64_w, i32_w]
    rfl
  refine pure_ (i := 8) (N := some 26) (v := ?_) (a' := ?_) #[true, true, true, false, true, true, false, true, true, false, false, false, false] rfl rfl (by kernel_rfl) (fun _ _ _ h => h) (Or.inl ⟨by rfl, ?_⟩) ?_ ?_
  rotate_left
  · intro w'
    go_simp
    with_reducible rfl
  rotate_left
  · simp only [Act.put, List.setIfInBounds_toArray, List.set_cons_zero, List.set_cons_succ, i64_w, i32_w]
    rfl
  refine take_ (i := 3) (N := some 21) (v := ?_) (a' := ?_) #[true, true, true, true, true, true, false, true, true, false, false, false, false] rfl rfl (by kernel_rfl) (fun _ _ _ h => h) (Or.inl ⟨by rfl, ?_⟩) hHeld ?_ ?_
  rotate_left
  · rintro w' ⟨s0, s1⟩
    go_simp
    with_reducible rfl
  rotate_left
  · simp only [Act.put, List.setIfInBounds_toArray, List.set_cons_zero, List.set_cons_succ, i64_w, i32_w]
    rfl
  refine one_ (i := 6) (N := some 24) #[true, true, true, true, true, true, true, true, true, false, false, false, false] rfl rfl (by kernel_rfl) (by decide) (fun K hK => ?_)
  refine goes_ Tryd.func19 (by kernel_rfl) rfl #[.int .i64 G2] (by rfl) rfl rfl (by simp only [List.map_toArray, List.map_cons, List.map_nil]; rfl) ?_
  with_reducible refine (C4.out _).mono ?_
  rintro e w3 ⟨rfl, hb⟩
  refine ⟨_, rfl, ?_⟩
  have hR3 := (hHeld.2.out).below hb
  clear hb
  refine hK.out _ _ ⟨(hR3).c0, ⟨hR3⟩⟩ (fun hHeld => ?_)
  clear hK K
  refine norm_ (a' := ?_) ?_ ?_
  rotate_left
  · show Act.put _ (some 24) _ = _
    simp only [Act.put, List.setIfInBounds_toArray, List.set_cons_zero, List.set_cons_succ, i64_w, i32_w]
    rfl
  refine one_ (i := 9) (N := some 27) #[true, true, true, true, true, true, true, true, true, true, false, false, false] rfl rfl (by kernel_rfl) (by decide) (fun K hK => ?_)
  refine goes_ Tryd.func21 (by kernel_rfl) rfl #[.int .i64 V4, .int .i64 (wrap64 (4294967296 + GAM))] (by rfl) rfl rfl (by simp only [List.map_toArray, List.map_cons, List.map_nil]; rfl) ?_
  with_reducible refine (C5.out _).mono ?_
  rintro e w3 ⟨rfl, hb⟩
  refine ⟨_, rfl, ?_⟩
  have hR3 := (hHeld.2.out).below hb
  clear hb
  refine hK.out _ _ ⟨(hR3).c0, ⟨hR3⟩⟩ (fun hHeld => ?_)
  clear hK K
  refine norm_ (a' := ?_) ?_ ?_
  rotate_left
  · show Act.put _ (some 27) _ = _
    simp only [Act.put, List.setIfInBounds_toArray, List.set_cons_zero, List.set_cons_succ, i64_w, i32_w]
    rfl
  refine one_ (i := 10) (N := some 28) #[true, true, true, true, true, true, true, true, true, true, true, false, false] rfl rfl (by kernel_rfl) (by decide) (fun K hK => ?_)
  refine goes_ Tryd.func20 (by kernel_rfl) rfl #[.int .i64 V5] (by rfl) rfl rfl (by simp only [List.map_toArray, List.map_cons, List.map_nil]; rfl) ?_
  with_reducible refine (C6.out _).mono ?_
  rintro e w3 ⟨rfl, hb⟩
  refine ⟨_, rfl, ?_⟩
  have hR3 := (hHeld.2.out).below hb
  clear hb
  refine hK.out _ _ ⟨(hR3).c0, ⟨hR3⟩⟩ (fun hHeld => ?_)
  clear hK K
  refine norm_ (a' := ?_) ?_ ?_
  rotate_left
  · show Act.put _ (some 28) _ = _
    simp only [Act.put, List.setIfInBounds_toArray, List.set_cons_zero, List.set_cons_succ, i64_w, i32_w]
    rfl
  refine pure_ (i := 11) (N := some 29) (v := ?_) (a' := ?_) #[true, true, true, true, true, true, true, true, true, true, true, true, false] rfl rfl (by kernel_rfl) (fun _ _ _ h => h) (Or.inl ⟨by rfl, ?_⟩) ?_ ?_
  rotate_left
  · intro w'
    go_simp
    with_reducible rfl
  rotate_left
  · simp only [Act.put, List.setIfInBounds_toArray, List.set_cons_zero, List.set_cons_succ, i64_w, i32_w]
    rfl
  refine pure_ (i := 12) (N := some 7) (v := ?_) (a' := ?_) #[true, true, true, true, true, true, true, true, true, true, true, true, true] rfl rfl (by kernel_rfl) (fun _ _ _ h => h) (Or.inl ⟨by rfl, ?_⟩) ?_ ?_
  rotate_left
  · intro w'
    go_simp
    with_reducible rfl
  rotate_left
  · simp only [Act.put, List.setIfInBounds_toArray, List.set_cons_zero, List.set_cons_succ, i64_w, i32_w]
    rfl
  refine done_ (by kernel_rfl) ?_
  have H2 := hHeld.2
  have c0 := hHeld.1
  have f0 := H2.out.f0
  clear hHeld
  go_wp2_with fail
  go_end0
  exact ⟨rfl, H2.out.s0 R⟩
set_option maxHeartbeats 2000000 in
theorem gradual_walk (w0 w : World) (g : Nat) (rate lo hi sig last x dt V1 OFF BY V4 A V6 B V8 R : Int) (any ramps : Bool) (H : Aside0 (NdRun w0 w g ⟨rate, lo, hi, sig, any, last, ramps⟩))
    (C1 : Aside0 (∀ w, Calls Tryd.prog 22 #[.int .i64 10000, .int .i64 hi, .int .i64 rate, .int .i64 1] w fun e w' => e = .returned (.int .i64 V1) ∧ Below w.heap.size w w'))
    (C2 : Aside0 (∀ w, Calls Tryd.prog 31 #[.int .i64 x, .int .i64 V1] w fun e w' => e = .returned (.int .i64 OFF) ∧ Below w.heap.size w w'))
    (C3 : Aside0 (∀ w, Calls Tryd.prog 31 #[.int .i64 x, .int .i64 sig] w fun e w' => e = .returned (.int .i64 BY) ∧ Below w.heap.size w w'))
    (C4 : Aside0 (∀ w, Calls Tryd.prog 27 #[.int .i64 OFF, .int .i64 dt] w fun e w' => e = .returned (.int .i64 V4) ∧ Below w.heap.size w w'))
    (C5 : Aside0 (∀ w, Calls Tryd.prog 22 #[.int .i64 rate, .int .i64 V4, .int .i64 (wrap64 (wrap64 1000000 * 500000)), .int .i64 2] w fun e w' => e = .returned (.int .i64 A) ∧ Below w.heap.size w w'))
    (C6 : Aside0 (∀ w, Calls Tryd.prog 27 #[.int .i64 2, .int .i64 BY] w fun e w' => e = .returned (.int .i64 V6) ∧ Below w.heap.size w w'))
    (C7 : Aside0 (∀ w, Calls Tryd.prog 22 #[.int .i64 rate, .int .i64 V6, .int .i64 (wrap64 1000000), .int .i64 2] w fun e w' => e = .returned (.int .i64 B) ∧ Below w.heap.size w w'))
    (C8 : Aside0 (∀ w, Calls Tryd.prog 31 #[.int .i64 rate, .int .i64 A] w fun e w' => e = .returned (.int .i64 V8) ∧ Below w.heap.size w w'))
    (C9 : Aside0 (∀ w, Calls Tryd.prog 31 #[.int .i64 V8, .int .i64 B] w fun e w' => e = .returned (.int .i64 R) ∧ Below w.heap.size w w')) :
    Calls Tryd.prog 25 #[.pointer (some ⟨g, 0, none⟩), .int .i64 x, .int .i64 dt] w fun e w' => e = .returned (.tuple #[]) ∧ NdRun w0 w' g ⟨R, lo, hi, sig, any, last, ramps⟩ := by
  go_enter Tryd.func25, Tryd.ntmps25
  go_wp2_with fail
  refine start_ (n := 14) (S := fun w' => w'.cell? ⟨0, 1, none⟩ = some (.int .i64 10000) ∧ w'.cell? ⟨g, 2, none⟩ = some (.int .i64 hi) ∧ w'.cell? ⟨g, 0, none⟩ = some (.int .i64 rate) ∧ Aside0 (NdRun w0 w' g ⟨rate, lo, hi, sig, any, last, ramps⟩)) (ds := []) #[false, false, false, false, false, false, false, false, false, false, false, false, false, false] (by kernel_rfl) rfl rfl ⟨(H.out.drewn).n1, (H.out.drewn).c2, (H.out.drewn).c0, ⟨H.out.drewn⟩⟩ (fun hHeld => ?_)
  refine pure_ (i := 0) (N := some 10) (v := ?_) (a' := ?_) #[true, false, false, false, false, false, false, false, false, false, false, false, false, false] rfl rfl (by kernel_rfl) (fun _ _ _ h => h) (Or.inl ⟨by rfl, ?_⟩) ?_ ?_
  rotate_left
  · intro w'
    go_simp
    with_reducible rfl
  rotate_left
  · simp only [Act.put, List.setIfInBounds_toArray, List.set_cons_zero, List.set_cons_succ, i64_w, i32_w]
    rfl
  refine pure_ (i := 1) (N := some 11) (v := ?_) (a' := ?_) #[true, true, false, false, false, false, false, false, false, false, false, false, false, false] rfl rfl (by kernel_rfl) (fun _ _ _ h => h) (Or.inl ⟨by rfl, ?_⟩) ?_ ?_
  rotate_left
  · intro w'
    go_simp
    with_reducible rfl
  rotate_left
  · simp only [Act.put, List.setIfInBounds_toArray, List.set_cons_zero, List.set_cons_succ, i64_w, i32_w]
    rfl
  refine pure_ (i := 3) (N := some 13) (v := ?_) (a' := ?_) #[true, true, false, true, false, false, false, false, false, false, false, false, false, false] rfl rfl (by kernel_rfl) (fun _ _ _ h => h) (Or.inl ⟨by rfl, ?_⟩) ?_ ?_
  rotate_left
  · intro w'
    go_simp
    with_reducible rfl
  rotate_left
  · simp only [Act.put, List.setIfInBounds_toArray, List.set_cons_zero, List.set_cons_succ, i64_w, i32_w]
    rfl
  refine pure_ (i := 4) (N := some 14) (v := ?_) (a' := ?_) #[true, true, false, true, true, false, false, false, false, false, false, false, false, false] rfl rfl (by kernel_rfl) (fun _ _ _ h => h) (Or.inl ⟨by rfl, ?_⟩) ?_ ?_
  rotate_left
  · intro w'
    go_simp
    with_reducible rfl
  rotate_left
  · simp only [Act.put, List.setIfInBounds_toArray, List.set_cons_zero, List.set_cons_succ, i64_w, i32_w]
    rfl
  refine pure_ (i := 5) (N := some 15) (v := ?_) (a' := ?_) #[true, true, false, true, true, true, false, false, false, false, false, false, false, false] rfl rfl (by kernel_rfl) (fun _ _ _ h => h) (Or.inl ⟨by rfl, ?_⟩) ?_ ?_
  rotate_left
  · intro w'
    go_simp
    with_reducible rfl
  rotate_left
  · simp only [Act.put, List.setIfInBounds_toArray, List.set_cons_zero, List.set_cons_succ, i64_w, i32_w]
    rfl
  refine pure_ (i := 7) (N := some 17) (v := ?_) (a' := ?_) #[true, true, false, true, true, true, false, true, false, false, false, false, false, false] rfl rfl (by kernel_rfl) (fun _ _ _ h => h) (Or.inl ⟨by rfl, ?_⟩) ?_ ?_
  rotate_left
  · intro w'
    go_simp
    with_reducible rfl
  rotate_left
  · simp only [Act.put, List.setIfInBounds_toArray, List.set_cons_zero, List.set_cons_succ, i64_w, i32_w]
    rfl
  refine pure_ (i := 8) (N := some 18) (v := ?_) (a' := ?_) #[true, true, false, true, true, true, false, true, true, false, false, false, false, false] rfl rfl (by kernel_rfl) (fun _ _ _ h => h) (Or.inl ⟨by rfl, ?_⟩) ?_ ?_
  rotate_left
  · intro w'
    go_simp
    with_reducible rfl
  rotate_left
  · simp only [Act.put, List.setIfInBounds_toArray, List.set_cons_zero, List.set_cons_succ, i64_w, i32_w]
    rfl
  refine pure_ (i := 9) (N := some 19) (v := ?_) (a' := ?_) #[true, true, false, true, true, true, false, true, true, true, false, false, false, false] rfl rfl (by kernel_rfl) (fun _ _ _ h => h) (Or.inl ⟨by rfl, ?_⟩) ?_ ?_
  rotate_left
  · intro w'
    go_simp
    with_reducible rfl
  rotate_left
  · simp only [Act.put, List.setIfInBounds_toArray, List.set_cons_zero, List.set_cons_succ, i64_w, i32_w]
    rfl
  refine take_ (i := 2) (N := some 12) (v := ?_) (a' := ?_) #[true, true, true, true, true, true, false, true, true, true, false, false, false, false] rfl rfl (by kernel_rfl) (fun _ _ _ h => h) (Or.inl ⟨by rfl, ?_⟩) hHeld ?_ ?_
  rotate_left
  · rintro w' ⟨s0, s1, s2, s3⟩
    go_simp
    with_reducible rfl
  rotate_left
  · simp only [Act.put, List.setIfInBounds_toArray, List.set_cons_zero, List.set_cons_succ, i64_w, i32_w]
    rfl
  refine take_ (i := 6) (N := some 16) (v := ?_) (a' := ?_) #[true, true, true, true, true, true, true, true, true, true, false, false, false, false] rfl rfl (by kernel_rfl) (fun _ _ _ h => h) (Or.inl ⟨by rfl, ?_⟩) hHeld ?_ ?_
  rotate_left
  · rintro w' ⟨s0, s1, s2, s3⟩
    go_simp
    with_reducible rfl
  rotate_left
  · simp only [Act.put, List.setIfInBounds_toArray, List.set_cons_zero, List.set_cons_succ, i64_w, i32_w]
    rfl
  refine take_ (i := 10) (N := some 20) (v := ?_) (a' := ?_) #[true, true, true, true, true, true, true, true, true, true, true, false, false, false] rfl rfl (by kernel_rfl) (fun _ _ _ h => h) (Or.inl ⟨by rfl, ?_⟩) hHeld ?_ ?_
  rotate_left
  · rintro w' ⟨s0, s1, s2, s3⟩
    go_simp
    with_reducible rfl
  rotate_left
  · simp only [Act.put, List.setIfInBounds_toArray, List.set_cons_zero, List.set_cons_succ, i64_w, i32_w]
    rfl
  refine one_ (i := 11) (N := some 21) #[true, true, true, true, true, true, true, true, true, true, true, true, false, false] rfl rfl (by kernel_rfl) (by decide) (fun K hK => ?_)
  refine goes_ Tryd.func22 (by kernel_rfl) rfl #[.int .i64 10000, .int .i64 hi, .int .i64 rate, .int .i64 1] (by rfl) rfl rfl (by simp only [List.map_toArray, List.map_cons, List.map_nil]; rfl) ?_
  with_reducible refine (C1.out _).mono ?_
  rintro e w3 ⟨rfl, hb⟩
  refine ⟨_, rfl, ?_⟩
  have hR3 := (hHeld.2.2.2.out).below hb
  clear hb
  refine hK.out _ _ ⟨(hR3).n1, (hR3).c2, (hR3).c0, ⟨hR3⟩⟩ (fun hHeld => ?_)
  clear hK K
  refine norm_ (a' := ?_) ?_ ?_
  rotate_left
  · show Act.put _ (some 21) _ = _
    simp only [Act.put, List.setIfInBounds_toArray, List.set_cons_zero, List.set_cons_succ, i64_w, i32_w]
    rfl
  refine one_ (i := 12) (N := some 22) #[true, true, true, true, true, true, true, true, true, true, true, true, true, false] rfl rfl (by kernel_rfl) (by decide) (fun K hK => ?_)
  refine goes_ Tryd.func31 (by kernel_rfl) rfl #[.int .i64 x, .int .i64 V1] (by rfl) rfl rfl (by simp only [List.map_toArray, List.map_cons, List.map_nil]; rfl) ?_
  with_reducible refine (C2.out _).mono ?_
  rintro e w3 ⟨rfl, hb⟩
  refine ⟨_, rfl, ?_⟩
  have hR3 := (hHeld.2.2.2.out).below hb
  clear hb
  refine hK.out _ _ ⟨(hR3).n1, (hR3).c2, (hR3).c0, ⟨hR3⟩⟩ (fun hHeld => ?_)
  clear hK K
  refine norm_ (a' := ?_) ?_ ?_
  rotate_left
  · show Act.put _ (some 22) _ = _
    simp only [Act.put, List.setIfInBounds_toArray, List.set_cons_zero, List.set_cons_succ, i64_w, i32_w]
    rfl
  refine pure_ (i := 13) (N := some 6) (v := ?_) (a' := ?_) #[true, true, true, true, true, true, true, true, true, true, true, true, true, true] rfl rfl (by kernel_rfl) (fun _ _ _ h => h) (Or.inl ⟨by rfl, ?_⟩) ?_ ?_
  rotate_left
  · intro w'
    go_simp
    with_reducible rfl
  rotate_left
  · simp only [Act.put, List.setIfInBounds_toArray, List.set_cons_zero, List.set_cons_succ, i64_w, i32_w]
    rfl
  refine done_ (by kernel_rfl) ?_
  have H2 := hHeld.2.2.2
  have c3 := H2.out.c3
  clear hHeld
  go_wp2_with fail
  refine (C3.out _).mono ?_
  rintro e w4 ⟨rfl, hb⟩
  have H3 := Aside0.mk (H2.out.below hb)
  clear hb c3
  go_wp2_with fail
  refine start_ (n := 15) (S := fun w' => w'.cell? ⟨g, 0, none⟩ = some (.int .i64 rate) ∧ w'.cell? ⟨0, 2, none⟩ = some (.int .i64 500000) ∧ Aside0 (NdRun w0 w' g ⟨rate, lo, hi, sig, any, last, ramps⟩)) (ds := []) #[false, false, false, false, false, false, false, false, false, false, false, false, false, false, false] (by kernel_rfl) rfl rfl ⟨(H3.out.drewn).c0, (H3.out.drewn).n2, ⟨H3.out.drewn⟩⟩ (fun hHeld => ?_)
  refine pure_ (i := 0) (N := some 29) (v := ?_) (a' := ?_) #[true, false, false, false, false, false, false, false, false, false, false, false, false, false, false] rfl rfl (by kernel_rfl) (fun _ _ _ h => h) (Or.inl ⟨by rfl, ?_⟩) ?_ ?_
  rotate_left
  · intro w'
    go_simp
    with_reducible rfl
  rotate_left
  · simp only [Act.put, List.setIfInBounds_toArray, List.set_cons_zero, List.set_cons_succ, i64_w, i32_w]
    rfl
  refine pure_ (i := 1) (N := some 30) (v := ?_) (a' := ?_) #[true, true, false, false, false, false, false, false, false, false, false, false, false, false, false] rfl rfl (by kernel_rfl) (fun _ _ _ h => h) (Or.inl ⟨by rfl, ?_⟩) ?_ ?_
  rotate_left
  · intro w'
    go_simp
    with_reducible rfl
  rotate_left
  · simp only [Act.put, List.setIfInBounds_toArray, List.set_cons_zero, List.set_cons_succ, i64_w, i32_w]
    rfl
  refine pure_ (i := 2) (N := some 31) (v := ?_) (a' := ?_) #[true, true, true, false, false, false, false, false, false, false, false, false, false, false, false] rfl rfl (by kernel_rfl) (fun _ _ _ h => h) (Or.inl ⟨by rfl, ?_⟩) ?_ ?_
  rotate_left
  · intro w'
    go_simp
    with_reducible rfl
  rotate_left
  · simp only [Act.put, List.setIfInBounds_toArray, List.set_cons_zero, List.set_cons_succ, i64_w, i32_w]
    rfl
  refine pure_ (i := 4) (N := some 33) (v := ?_) (a' := ?_) #[true, true, true, false, true, false, false, false, false, false, false, false, false, false, false] rfl rfl (by kernel_rfl) (fun _ _ _ h => h) (Or.inl ⟨by rfl, ?_⟩) ?_ ?_
  rotate_left
  · intro w'
    go_simp
    with_reducible rfl
  rotate_left
  · simp only [Act.put, List.setIfInBounds_toArray, List.set_cons_zero, List.set_cons_succ, i64_w, i32_w]
    rfl
  refine pure_ (i := 5) (N := some 34) (v := ?_) (a' := ?_) #[true, true, true, false, true, true, false, false, false, false, false, false, false, false, false] rfl rfl (by kernel_rfl) (fun _ _ _ h => h) (Or.inl ⟨by rfl, ?_⟩) ?_ ?_
  rotate_left
  · intro w'
    go_simp
    with_reducible rfl
  rotate_left
  · simp only [Act.put, List.setIfInBounds_toArray, List.set_cons_zero, List.set_cons_succ, i64_w, i32_w]
    rfl
  refine pure_ (i := 7) (N := some 36) (v := ?_) (a' := ?_) #[true, true, true, false, true, true, false, true, false, false, false, false, false, false, false] rfl rfl (by kernel_rfl) (fun _ _ _ h => h) (Or.inl ⟨by rfl, ?_⟩) ?_ ?_
  rotate_left
  · intro w'
    go_simp
    with_reducible rfl
  rotate_left
  · simp only [Act.put, List.setIfInBounds_toArray, List.set_cons_zero, List.set_cons_succ, i64_w, i32_w]
    rfl
  refine pure_ (i := 10) (N := some 39) (v := ?_) (a' := ?_) #[true, true, true, false, true, true, false, true, false, false, true, false, false, false, false] rfl rfl (by kernel_rfl) (fun _ _ _ h => h) (Or.inl ⟨by rfl, ?_⟩) ?_ ?_
  rotate_left
  · intro w'
    go_simp
    with_reducible rfl
  rotate_left
  · simp only [Act.put, List.setIfInBounds_toArray, List.set_cons_zero, List.set_cons_succ, i64_w, i32_w]
    rfl
  refine take_ (i := 3) (N := some 32) (v := ?_) (a' := ?_) #[true, true, true, true, true, true, false, true, false, false, true, false, false, false, false] rfl rfl (by kernel_rfl) (fun _ _ _ h => h) (Or.inl ⟨by rfl, ?_⟩) hHeld ?_ ?_
  rotate_left
  · rintro w' ⟨s0, s1, s2⟩
    go_simp
    with_reducible rfl
  rotate_left
  · simp only [Act.put, List.setIfInBounds_toArray, List.set_cons_zero, List.set_cons_succ, i64_w, i32_w]
    rfl
  refine take_ (i := 8) (N := some 37) (v := ?_) (a' := ?_) #[true, true, true, true, true, true, false, true, true, false, true, false, false, false, false] rfl rfl (by kernel_rfl) (fun _ _ _ h => h) (Or.inl ⟨by rfl, ?_⟩) hHeld ?_ ?_
  rotate_left
  · rintro w' ⟨s0, s1, s2⟩
    go_simp
    with_reducible rfl
  rotate_left
  · simp only [Act.put, List.setIfInBounds_toArray, List.set_cons_zero, List.set_cons_succ, i64_w, i32_w]
    rfl
  refine pure_ (i := 9) (N := some 38) (v := ?_) (a' := ?_) #[true, true, true, true, true, true, false, true, true, true, true, false, false, false, false] rfl rfl (by kernel_rfl) (fun _ _ _ h => h) (Or.inl ⟨by rfl, ?_⟩) ?_ ?_
  rotate_left
  · intro w'
    go_simp
    with_reducible rfl
  rotate_left
  · simp only [Act.put, List.setIfInBounds_toArray, List.set_cons_zero, List.set_cons_succ, i64_w, i32_w]
    rfl
  refine take_ (i := 11) (N := some 40) (v := ?_) (a' := ?_) #[true, true, true, true, true, true, false, true, true, true, true, true, false, false, false] rfl rfl (by kernel_rfl) (fun _ _ _ h => h) (Or.inl ⟨by rfl, ?_⟩) hHeld ?_ ?_
  rotate_left
  · rintro w' ⟨s0, s1, s2⟩
    go_simp
    with_reducible rfl
  rotate_left
  · simp only [Act.put, List.setIfInBounds_toArray, List.set_cons_zero, List.set_cons_succ, i64_w, i32_w]
    rfl
  refine pure_ (i := 12) (N := some 41) (v := ?_) (a' := ?_) #[true, true, true, true, true, true, false, true, true, true, true, true, true, false, false] rfl rfl (by kernel_rfl) (fun _ _ _ h => h) (Or.inl ⟨by rfl, ?_⟩) ?_ ?_
  rotate_left
  · intro w'
    go_simp
    with_reducible rfl
  rotate_left
  · simp only [Act.put, List.setIfInBounds_toArray, List.set_cons_zero, List.set_cons_succ, i64_w, i32_w]
    rfl
  refine one_ (i := 6) (N := some 35) #[true, true, true, true, true, true, true, true, true, true, true, true, true, false, false] rfl rfl (by kernel_rfl) (by decide) (fun K hK => ?_)
  refine goes_ Tryd.func27 (by kernel_rfl) rfl #[.int .i64 OFF, .int .i64 dt] (by rfl) rfl rfl (by simp only [List.map_toArray, List.map_cons, List.map_nil]; rfl) ?_
  with_reducible refine (C4.out _).mono ?_
  rintro e w3 ⟨rfl, hb⟩
  refine ⟨_, rfl, ?_⟩
  have hR3 := (hHeld.2.2.out).below hb
  clear hb
  refine hK.out _ _ ⟨(hR3).c0, (hR3).n2, ⟨hR3⟩⟩ (fun hHeld => ?_)
  clear hK K
  refine norm_ (a' := ?_) ?_ ?_
  rotate_left
  · show Act.put _ (some 35) _ = _
    simp only [Act.put, List.setIfInBounds_toArray, List.set_cons_zero, List.set_cons_succ, i64_w, i32_w]
    rfl
  refine one_ (i := 13) (N := some 42) #[true, true, true, true, true, true, true, true, true, true, true, true, true, true, false] rfl rfl (by kernel_rfl) (by decide) (fun K hK => ?_)
  refine goes_ Tryd.func22 (by kernel_rfl) rfl #[.int .i64 rate, .int .i64 V4, .int .i64 (wrap64 (wrap64 1000000 * 500000)), .int .i64 2] (by rfl) rfl rfl (by simp only [List.map_toArray, List.map_cons, List.map_nil]; rfl) ?_
  with_reducible refine (C5.out _).mono ?_
  rintro e w3 ⟨rfl, hb⟩
  refine ⟨_, rfl, ?_⟩
  have hR3 := (hHeld.2.2.out).below hb
  clear hb
  refine hK.out _ _ ⟨(hR3).c0, (hR3).n2, ⟨hR3⟩⟩ (fun hHeld => ?_)
  clear hK K
  refine norm_ (a' := ?_) ?_ ?_
  rotate_left
  · show Act.put _ (some 42) _ = _
    simp only [Act.put, List.setIfInBounds_toArray, List.set_cons_zero, List.set_cons_succ, i64_w, i32_w]
    rfl
  refine pure_ (i := 14) (N := some 8) (v := ?_) (a' := ?_) #[true, true, true, true, true, true, true, true, true, true, true, true, true, true, true] rfl rfl (by kernel_rfl) (fun _ _ _ h => h) (Or.inl ⟨by rfl, ?_⟩) ?_ ?_
  rotate_left
  · intro w'
    go_simp
    with_reducible rfl
  rotate_left
  · simp only [Act.put, List.setIfInBounds_toArray, List.set_cons_zero, List.set_cons_succ, i64_w, i32_w]
    rfl
  refine done_ (by kernel_rfl) ?_
  have H5 := hHeld.2.2
  clear hHeld
  go_wp2_with fail
  refine start_ (n := 13) (S := fun w' => w'.cell? ⟨g, 0, none⟩ = some (.int .i64 rate) ∧ w'.cell? ⟨0, 8, none⟩ = some (.int .i64 2) ∧ w'.cell? ⟨0, 2, none⟩ = some (.int .i64 500000) ∧ Aside0 (NdRun w0 w' g ⟨rate, lo, hi, sig, any, last, ramps⟩)) (ds := []) #[false, false, false, false, false, false, false, false, false, false, false, false, false] (by kernel_rfl) rfl rfl ⟨(H5.out.drewn).c0, (H5.out.drewn).n8, (H5.out.drewn).n2, ⟨H5.out.drewn⟩⟩ (fun hHeld => ?_)
  refine pure_ (i := 0) (N := some 43) (v := ?_) (a' := ?_) #[true, false, false, false, false, false, false, false, false, false, false, false, false] rfl rfl (by kernel_rfl) (fun _ _ _ h => h) (Or.inl ⟨by rfl, ?_⟩) ?_ ?_
  rotate_left
  · intro w'
    go_simp
    with_reducible rfl
  rotate_left
  · simp only [Act.put, List.setIfInBounds_toArray, List.set_cons_zero, List.set_cons_succ, i64_w, i32_w]
    rfl
  refine pure_ (i := 1) (N := some 44) (v := ?_) (a' := ?_) #[true, true, false, false, false, false, false, false, false, false, false, false, false] rfl rfl (by kernel_rfl) (fun _ _ _ h => h) (Or.inl ⟨by rfl, ?_⟩) ?_ ?_
  rotate_left
  · intro w'
    go_simp
    with_reducible rfl
  rotate_left
  · simp only [Act.put, List.setIfInBounds_toArray, List.set_cons_zero, List.set_cons_succ, i64_w, i32_w]
    rfl
  refine pure_ (i := 2) (N := some 45) (v := ?_) (a' := ?_) #[true, true, true, false, false, false, false, false, false, false, false, false, false] rfl rfl (by kernel_rfl) (fun _ _ _ h => h) (Or.inl ⟨by rfl, ?_⟩) ?_ ?_
  rotate_left
  · intro w'
    go_simp
    with_reducible rfl
  rotate_left
  · simp only [Act.put, List.setIfInBounds_toArray, List.set_cons_zero, List.set_cons_succ, i64_w, i32_w]
    rfl
  refine pure_ (i := 4) (N := some 47) (v := ?_) (a' := ?_) #[true, true, true, false, true, false, false, false, false, false, false, false, false] rfl rfl (by kernel_rfl) (fun _ _ _ h => h) (Or.inl ⟨by rfl, ?_⟩) ?_ ?_
  rotate_left
  · intro w'
    go_simp
    with_reducible rfl
  rotate_left
  · simp only [Act.put, List.setIfInBounds_toArray, List.set_cons_zero, List.set_cons_succ, i64_w, i32_w]
    rfl
  refine pure_ (i := 6) (N := some 49) (v := ?_) (a' := ?_) #[true, true, true, false, true, false, true, false, false, false, false, false, false] rfl rfl (by kernel_rfl) (fun _ _ _ h => h) (Or.inl ⟨by rfl, ?_⟩) ?_ ?_
  rotate_left
  · intro w'
    go_simp
    with_reducible rfl
  rotate_left
  · simp only [Act.put, List.setIfInBounds_toArray, List.set_cons_zero, List.set_cons_succ, i64_w, i32_w]
    rfl
  refine pure_ (i := 8) (N := some 51) (v := ?_) (a' := ?_) #[true, true, true, false, true, false, true, false, true, false, false, false, false] rfl rfl (by kernel_rfl) (fun _ _ _ h => h) (Or.inl ⟨by rfl, ?_⟩) ?_ ?_
  rotate_left
  · intro w'
    go_simp
    with_reducible rfl
  rotate_left
  · simp only [Act.put, List.setIfInBounds_toArray, List.set_cons_zero, List.set_cons_succ, i64_w, i32_w]
    rfl
  refine take_ (i := 3) (N := some 46) (v := ?_) (a' := ?_) #[true, true, true, true, true, false, true, false, true, false, false, false, false] rfl rfl (by kernel_rfl) (fun _ _ _ h => h) (Or.inl ⟨by rfl, ?_⟩) hHeld ?_ ?_
  rotate_left
  · rintro w' ⟨s0, s1, s2, s3⟩
    go_simp
    with_reducible rfl
  rotate_left
  · simp only [Act.put, List.setIfInBounds_toArray, List.set_cons_zero, List.set_cons_succ, i64_w, i32_w]
    rfl
  refine take_ (i := 5) (N := some 48) (v := ?_) (a' := ?_) #[true, true, true, true, true, true, true, false, true, false, false, false, false] rfl rfl (by kernel_rfl) (fun _ _ _ h => h) (Or.inl ⟨by rfl, ?_⟩) hHeld ?_ ?_
  rotate_left
  · rintro w' ⟨s0, s1, s2, s3⟩
    go_simp
    with_reducible rfl
  rotate_left
  · simp only [Act.put, List.setIfInBounds_toArray, List.set_cons_zero, List.set_cons_succ, i64_w, i32_w]
    rfl
  refine take_ (i := 9) (N := some 52) (v := ?_) (a' := ?_) #[true, true, true, true, true, true, true, false, true, true, false, false, false] rfl rfl (by kernel_rfl) (fun _ _ _ h => h) (Or.inl ⟨by rfl, ?_⟩) hHeld ?_ ?_
  rotate_left
  · rintro w' ⟨s0, s1, s2, s3⟩
    go_simp
    with_reducible rfl
  rotate_left
  · simp only [Act.put, List.setIfInBounds_toArray, List.set_cons_zero, List.set_cons_succ, i64_w, i32_w]
    rfl
  refine pure_ (i := 10) (N := some 53) (v := ?_) (a' := ?_) #[true, true, true, true, true, true, true, false, true, true, true, false, false] rfl rfl (by kernel_rfl) (fun _ _ _ h => h) (Or.inl ⟨by rfl, ?_⟩) ?_ ?_
  rotate_left
  · intro w'
    go_simp
    with_reducible rfl
  rotate_left
  · simp only [Act.put, List.setIfInBounds_toArray, List.set_cons_zero, List.set_cons_succ, i64_w, i32_w]
    rfl
  refine one_ (i := 7) (N := some 50) #[true, true, true, true, true, true, true, true, true, true, true, false, false] rfl rfl (by kernel_rfl) (by decide) (fun K hK => ?_)
  refine goes_ Tryd.func27 (by kernel_rfl) rfl #[.int .i64 2, .int .i64 BY] (by rfl) rfl rfl (by simp only [List.map_toArray, List.map_cons, List.map_nil]; rfl) ?_
  with_reducible refine (C6.out _).mono ?_
  rintro e w3 ⟨rfl, hb⟩
  refine ⟨_, rfl, ?_⟩
  have hR3 := (hHeld.2.2.2.out).below hb
  clear hb
  refine hK.out _ _ ⟨(hR3).c0, (hR3).n8, (hR3).n2, ⟨hR3⟩⟩ (fun hHeld => ?_)
  clear hK K
  refine norm_ (a' := ?_) ?_ ?_
  rotate_left
  · show Act.put _ (some 50) _ = _
    simp only [Act.put, List.setIfInBounds_toArray, List.set_cons_zero, List.set_cons_succ, i64_w, i32_w]
    rfl
  refine one_ (i := 11) (N := some 54) #[true, true, true, true, true, true, true, true, true, true, true, true, false] rfl rfl (by kernel_rfl) (by decide) (fun K hK => ?_)
  refine goes_ Tryd.func22 (by kernel_rfl) rfl #[.int .i64 rate, .int .i64 V6, .int .i64 (wrap64 1000000), .int .i64 2] (by rfl) rfl rfl (by simp only [List.map_toArray, List.map_cons, List.map_nil]; rfl) ?_
  with_reducible refine (C7.out _).mono ?_
  rintro e w3 ⟨rfl, hb⟩
  refine ⟨_, rfl, ?_⟩
  have hR3 := (hHeld.2.2.2.out).below hb
  clear hb
  refine hK.out _ _ ⟨(hR3).c0, (hR3).n8, (hR3).n2, ⟨hR3⟩⟩ (fun hHeld => ?_)
  clear hK K
  refine norm_ (a' := ?_) ?_ ?_
  rotate_left
  · show Act.put _ (some 54) _ = _
    simp only [Act.put, List.setIfInBounds_toArray, List.set_cons_zero, List.set_cons_succ, i64_w, i32_w]
    rfl
  refine pure_ (i := 12) (N := some 9) (v := ?_) (a' := ?_) #[true, true, true, true, true, true, true, true, true, true, true, true, true] rfl rfl (by kernel_rfl) (fun _ _ _ h => h) (Or.inl ⟨by rfl, ?_⟩) ?_ ?_
  rotate_left
  · intro w'
    go_simp
    with_reducible rfl
  rotate_left
  · simp only [Act.put, List.setIfInBounds_toArray, List.set_cons_zero, List.set_cons_succ, i64_w, i32_w]
    rfl
  refine done_ (by kernel_rfl) ?_
  have H6 := hHeld.2.2.2
  have c0 := hHeld.1
  clear hHeld
  go_wp2_with fail
  refine (C8.out _).mono ?_
  rintro e w4 ⟨rfl, hb⟩
  have H7 := Aside0.mk (H6.out.below hb)
  clear hb c0
  go_wp2_with fail
  refine (C9.out _).mono ?_
  rintro e w5 ⟨rfl, hb⟩
  have H8 := Aside0.mk (H7.out.below hb)
  have f0 := H8.out.f0
  have c0 := H8.out.c0
  clear hb
  go_wp2_with fail
  go_end0
  exact ⟨rfl, H8.out.s0 R⟩
end Go.Proofs.YtbdnbndmiekejaaDoor.B
