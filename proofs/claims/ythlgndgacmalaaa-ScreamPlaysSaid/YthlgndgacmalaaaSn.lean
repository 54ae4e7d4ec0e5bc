/-
  The third controller: its making, and what only looks at it. Walks over the program.
-/
import Derived.Test.YthlgndgacmalaaaSl
namespace Go.Proofs.Ythlgndgacmalaaa.B
open Go.RowKit Go.Proofs.YthlgndgacmalaaaW.PrintWords Go.Proofs.YthlgndgacmalaaaW.PrintLast Go.Proofs.YthlgndgacmalaaaW.PrintMore
set_option linter.unusedVariables false
set_option linter.unusedSimpArgs false
theorem window_any (g : Nat) (s : Sc) (w : World) (hs : ScIs w g s) : Calls Try.prog 10 #[.pointer (some ⟨g, 0, none⟩)] w fun e w' => e = .returned (.int .i64 s.win) ∧ w' = w := by
  have h3 := blk_cell hs 3
  simp only [List.getElem?_toArray, List.getElem?_cons_zero, List.getElem?_cons_succ] at h3
  clear hs
  go_enter Try.func10, Try.ntmps10
  go_wp2
  go_ret
  exact ⟨rfl, rfl⟩
theorem window_nil (w : World) : Calls Try.prog 10 #[.pointer none] w fun e w' => e = .returned (.int .i64 0) ∧ w' = w := by
  go_enter Try.func10, Try.ntmps10
  go_wp2
  go_ret
  exact ⟨rfl, rfl⟩
theorem rate_any (g : Nat) (s : Sc) (w : World) (hs : ScIs w g s) : Calls Try.prog 19 #[.pointer (some ⟨g, 0, none⟩)] w fun e w' => e = .returned (.int .i64 s.rate) ∧ w' = w := by
  have h3 := blk_cell hs 0
  simp only [List.getElem?_toArray, List.getElem?_cons_zero, List.getElem?_cons_succ] at h3
  clear hs
  go_enter Try.func19, Try.ntmps19
  go_wp2
  go_ret
  exact ⟨rfl, rfl⟩
theorem rate_nil (w : World) : Calls Try.prog 19 #[.pointer none] w fun e w' => e = .returned (.int .i64 0) ∧ w' = w := by
  go_enter Try.func19, Try.ntmps19
  go_wp2
  go_ret
  exact ⟨rfl, rfl⟩
theorem fast_any (g : Nat) (s : Sc) (w : World) (hs : ScIs w g s) : Calls Try.prog 12 #[.pointer (some ⟨g, 0, none⟩)] w fun e w' => e = .returned (.bool s.fast) ∧ w' = w := by
  have h3 := blk_cell hs 4
  simp only [List.getElem?_toArray, List.getElem?_cons_zero, List.getElem?_cons_succ] at h3
  clear hs
  go_enter Try.func12, Try.ntmps12
  go_wp2
  go_ret
  exact ⟨rfl, rfl⟩
theorem fast_nil (w : World) : Calls Try.prog 12 #[.pointer none] w fun e w' => e = .returned (.bool false) ∧ w' = w := by
  go_enter Try.func12, Try.ntmps12
  go_wp2
  go_ret
  exact ⟨rfl, rfl⟩
theorem age_any (g : Nat) (s : Sc) (a : Int) (w : World) (hs : ScIs w g s) : Calls Try.prog 14 #[.pointer (some ⟨g, 0, none⟩), .int .i64 a] w fun e w' => e = .returned (.tuple #[]) ∧ ScIs w' g { s with old := decide (60000 < a) } ∧ Touch (fun k => k = g) w w' := by
  have h5 := blk_cell hs 5
  simp only [List.getElem?_toArray, List.getElem?_cons_zero, List.getElem?_cons_succ] at h5
  have f5 := blk_frozen hs 5
  have HS := Aside0.mk hs
  clear hs
  go_enter Try.func14, Try.ntmps14
  go_wp2
  go_end0
  exact ⟨rfl, (blk_set HS.out 5 _).trans (by simp), (Touch.refl (fun k => k = g) _).setCell (p := ⟨g, 5, none⟩) (.inl rfl) _⟩
theorem age_nil (a : Int) (w : World) : Calls Try.prog 14 #[.pointer none, .int .i64 a] w fun e w' => e = .returned (.tuple #[]) ∧ w' = w := by
  go_enter Try.func14, Try.ntmps14
  go_wp2
  go_end0
  exact ⟨rfl, rfl⟩
set_option maxRecDepth 100000 in
theorem hear_nil (a d r n : Int) (l e : Bool) (w : World) : Calls Try.prog 11 #[.pointer none, .int .i64 a, .int .i64 d, .bool l, .bool e, .int .i64 r, .int .i64 n] w fun e w' => e = .returned (.int .i64 0) ∧ w' = w := by
  go_enter Try.func11, Try.ntmps11
  go_wp2
  go_step3
  go_wp2
  rw [Exit.noGoto_ret]
  go_ret
  exact ⟨rfl, rfl⟩
/-- What is made. -/
def Sc.made (start lo hi : Int) : Sc := ⟨start, lo, hi, if mdo start 100000 8000000 1 < 3000 then 3000 else mdo start 100000 8000000 1, true, false, 0, false, 0⟩
def MadeSc (start lo hi : Int) (w : World) (e : Ending) (w' : World) : Prop :=
  ∃ g : Nat, e = .returned (.tuple #[.pointer (some ⟨g, 0, none⟩), .int .i64 0]) ∧ w.heap.size ≤ g ∧ ScIs w' g (Sc.made start lo hi) ∧ Below w.heap.size w w'
def goodSc (start lo hi : Int) : Bool := decide (1 ≤ lo ∧ lo ≤ start ∧ start ≤ hi ∧ hi ≤ 17179869184)
theorem scnew_good (start lo hi : Int) (w : World) (h : goodSc start lo hi = true) : Calls Try.prog 8 #[.int .i64 start, .int .i64 lo, .int .i64 hi] w (MadeSc start lo hi w) := by
  simp only [goodSc, decide_eq_true_eq] at h
  obtain ⟨h1, h2, h3, h4⟩ := h
  have d1 : decide (lo < 1) = false := by simp; omega
  have d2 : decide (start < lo) = false := by simp; omega
  have d3 : decide (hi < start) = false := by simp; omega
  have d4 : decide (17179869184 < hi) = false := by simp; omega
  have CB := Aside0.mk (fun w => bytes_any start 100000 (i64_const (by omega) (by omega)) (i64_const (by omega) (by omega)) w)
  have hW : ∃ W, W = (if mdo start 100000 8000000 1 < 3000 then 3000 else mdo start 100000 8000000 1) := ⟨_, rfl⟩
  have HM : Aside0 (Sc.made start lo hi = ⟨start, lo, hi, if mdo start 100000 8000000 1 < 3000 then 3000 else mdo start 100000 8000000 1, true, false, 0, false, 0⟩) := ⟨rfl⟩
  generalize mdo start 100000 8000000 1 = BB at *
  clear hW
  go_enter Try.func8, Try.ntmps8
  go_wp2_with fail
  refine (CB.out _).mono ?_
  rintro e w1 ⟨rfl, hB⟩
  go_wp2_with fail
  all_goals go_ret2
  · have hh : BB < 3000 := by assumption
    refine ⟨w1.heap.size, rfl, hB.size, ?_, hB.alloc hB.size _⟩
    rw [HM.out, if_pos hh]
    exact blk_new _ _
  · have hh : ¬ BB < 3000 := by omega
    refine ⟨w1.heap.size, rfl, hB.size, ?_, hB.alloc hB.size _⟩
    rw [HM.out, if_neg hh]
    exact blk_new _ _
theorem scnew_bad (start lo hi : Int) (w : World) (h : goodSc start lo hi = false) : Calls Try.prog 8 #[.int .i64 start, .int .i64 lo, .int .i64 hi] w fun e w' => e = .returned (.tuple #[.pointer none, .int .i64 1]) ∧ w' = w := by
  simp only [goodSc, decide_eq_false_iff_not] at h
  by_cases d1 : lo < 1
  · have e1 : decide (lo < 1) = true := by simp [d1]
    clear h
    go_enter Try.func8, Try.ntmps8
    go_wp2_with fail
    go_ret2
    exact ⟨rfl, rfl⟩
  have e1 : decide (lo < 1) = false := by simp; omega
  by_cases d2 : start < lo
  · have e2 : decide (start < lo) = true := by simp [d2]
    clear h
    go_enter Try.func8, Try.ntmps8
    go_wp2_with fail
    go_ret2
    exact ⟨rfl, rfl⟩
  have e2 : decide (start < lo) = false := by simp; omega
  by_cases d3 : hi < start
  · have e3 : decide (hi < start) = true := by simp [d3]
    clear h
    go_enter Try.func8, Try.ntmps8
    go_wp2_with fail
    go_ret2
    exact ⟨rfl, rfl⟩
  have e3 : decide (hi < start) = false := by simp; omega
  have d4 : 17179869184 < hi := by omega
  have e4 : decide (17179869184 < hi) = true := by simp [d4]
  clear h
  go_enter Try.func8, Try.ntmps8
  go_wp2_with fail
  go_ret2
  exact ⟨rfl, rfl⟩
end Go.Proofs.Ythlgndgacmalaaa.B
