/-
  The way with one queue: its making, and what only looks at it. Walks over the program.
-/
import Derived.Test.YtaghgjmcjmjfiaaUn
import Derived.Test.YtaghgjmcjmjfiaaCl
import Derived.Test.YtaghgjmcjmjfiaaTo
namespace Go.Proofs.Ytaghgjmcjmjfiaa.B
open Go.RowKit Go.Proofs.YtaghgjmcjmjfiaaW.PrintWords Go.Proofs.YtaghgjmcjmjfiaaW.PrintLast Go.Proofs.YtaghgjmcjmjfiaaW.PrintMore
set_option linter.unusedVariables false
set_option linter.unusedSimpArgs false
/-- A packet under way: its number, its size, when it came, when it is carried, whether it is lost. -/
abbrev Pkt := Int × Int × Int × Int × Bool
def pkD : Kd Pkt := Kd.pair (Kd.int .i64) (Kd.pair (Kd.int .i64) (Kd.pair (Kd.int .i64) (Kd.pair (Kd.int .i64) Kd.bool)))
structure Wy where
  rate : Int
  delay : Int
  lose : Int
  skew : Int
  last : Int
  free : Int
  count : Int
  q : List Pkt
/-- The way's own block; its queue is the value v. -/
def WyAt (w : World) (g : Nat) (y : Wy) (v : Value) : Prop := w.heap[g]? = some (.cells #[.int .i64 y.rate, .int .i64 y.delay, .int .i64 y.lose, .int .i64 y.skew, .int .i64 y.last, .int .i64 y.free, .int .i64 y.count, v] 51 (0, 0))
/-- The way, all of it made past base. -/
def WyIs (w : World) (base g : Nat) (y : Wy) (v : Value) : Prop := base ≤ g ∧ WyAt w g y v ∧ pkD.Q 53 w base (fun _ => True) v y.q
def lkV (r d l s : Int) : Value := .agg #[.int .i64 r, .int .i64 d, .int .i64 l, .int .i64 s]
def goodLk (r d l s : Int) : Bool := decide (1000 ≤ r) && decide (r ≤ 17179869184) && decide (0 ≤ d) && decide (d ≤ 10000000) && decide (0 ≤ l) && decide (l ≤ 1000) && decide (hold (absI s) ≤ 281474976710656)
theorem good_walk (r d l s V : Int) (C : Aside0 (∀ w, Calls Try.prog 21 #[.int .i64 s] w fun e w' => e = .returned (.int .i64 V) ∧ Below w.heap.size w w')) (w : World) : Calls Try.prog 17 #[lkV r d l s] w fun e w' => e = .returned (.bool (decide (1000 ≤ r) && decide (r ≤ 17179869184) && decide (0 ≤ d) && decide (d ≤ 10000000) && decide (0 ≤ l) && decide (l ≤ 1000) && decide (V ≤ 281474976710656))) ∧ Below w.heap.size w w' := by
  unfold lkV
  go_enter Try.func17, Try.ntmps17
  go_wp2_with fail
  · refine (C.out _).mono ?_
    rintro e w1 ⟨rfl, hB⟩
    go_wp2_with fail
    go_ret
    have hA := (Below.refl w.heap.size w).alloc (Nat.le_refl _) (.cells #[.int .i64 r, .int .i64 d, .int .i64 l, .int .i64 s] 23)
    refine ⟨by simp_all, hA.trans (hB.mono hA.size)⟩
  all_goals go_ret
  all_goals (refine ⟨?_, (Below.refl _ _).alloc (Nat.le_refl _) _⟩)
  · simp only [decide_eq_false (show ¬ l ≤ 1000 by omega), Bool.false_and]; rfl
  · simp only [decide_eq_false (show ¬ 0 ≤ l by omega), Bool.false_and]; rfl
  · simp only [decide_eq_false (show ¬ d ≤ 10000000 by omega), Bool.false_and]; rfl
  · simp only [decide_eq_false (show ¬ 0 ≤ d by omega), Bool.false_and]; rfl
  · simp only [decide_eq_false (show ¬ r ≤ 17179869184 by omega), Bool.false_and]; rfl
  · simp only [decide_eq_false (show ¬ 1000 ≤ r by omega), Bool.false_and]; rfl
theorem wait_walk (g : Nat) (y : Wy) (v : Value) (t V : Int) (C : Aside0 (∀ w, Calls Try.prog 18 #[.int .i64 y.free, .int .i64 t] w fun e w' => e = .returned (.int .i64 V) ∧ Below w.heap.size w w')) (w : World) (hs : WyAt w g y v) : Calls Try.prog 13 #[.pointer (some ⟨g, 0, none⟩), .int .i64 t] w fun e w' => e = .returned (.int .i64 (max V 0)) ∧ Below w.heap.size w w' := by
  have h5 := blk_cell hs 5
  simp only [List.getElem?_toArray, List.getElem?_cons_zero, List.getElem?_cons_succ] at h5
  clear hs
  go_enter Try.func13, Try.ntmps13
  go_wp2_with fail
  refine (C.out _).mono ?_
  rintro e w1 ⟨rfl, hB⟩
  go_wp2_with fail
  all_goals go_ret
  exact ⟨rfl, hB⟩
theorem wait_nil (t : Int) (w : World) : Calls Try.prog 13 #[.pointer none, .int .i64 t] w fun e w' => e = .returned (.int .i64 0) ∧ w' = w := by
  go_enter Try.func13, Try.ntmps13
  go_wp2
  go_ret
  exact ⟨rfl, rfl⟩
theorem queue_nil (t : Int) (w : World) : Calls Try.prog 15 #[.pointer none, .int .i64 t] w fun e w' => e = .returned (.int .i64 0) ∧ w' = w := by
  go_enter Try.func15, Try.ntmps15
  go_wp2
  go_ret
  exact ⟨rfl, rfl⟩
theorem out_nil (t : Int) (w : World) : Calls Try.prog 12 #[.pointer none, .int .i64 t] w fun e w' => e = .returned (.slice none 0 0) ∧ w' = w := by
  go_enter Try.func12, Try.ntmps12
  go_wp2
  go_ret
  exact ⟨rfl, rfl⟩
theorem in_nil (a b t : Int) (w : World) : Calls Try.prog 11 #[.pointer none, .int .i64 a, .int .i64 b, .int .i64 t] w fun e w' => e = .returned (.bool false) ∧ w' = w := by
  go_enter Try.func11, Try.ntmps11
  go_wp2
  go_ret
  exact ⟨rfl, rfl⟩
theorem good_any (r d l s : Int) (hs : I64 s) (w : World) : Calls Try.prog 17 #[lkV r d l s] w fun e w' => e = .returned (.bool (goodLk r d l s)) ∧ Below w.heap.size w w' :=
  good_walk r d l s _ ⟨fun w => abs_any s hs w⟩ w
theorem wait_any (g : Nat) (y : Wy) (v : Value) (t : Int) (hf : I64 y.free) (ht : I64 t) (w : World) (hs : WyAt w g y v) : Calls Try.prog 13 #[.pointer (some ⟨g, 0, none⟩), .int .i64 t] w fun e w' => e = .returned (.int .i64 (max (hold (y.free - t)) 0)) ∧ Below w.heap.size w w' :=
  wait_walk g y v t _ ⟨fun w => sub_any y.free t hf ht w⟩ w hs
/-- What is made. -/
def Wy.made (r d l s : Int) : Wy := ⟨r, d, l, s, 0, 0, 0, []⟩
theorem lknew_good (r d l s : Int) (hs : I64 s) (w : World) (h : goodLk r d l s = true) : Calls Try.prog 9 #[lkV r d l s] w fun e w' => ∃ g : Nat, e = .returned (.tuple #[.pointer (some ⟨g, 0, none⟩), .int .i64 0]) ∧ WyIs w' w.heap.size g (Wy.made r d l s) (.slice none 0 0) ∧ Below w.heap.size w w' := by
  have C := Aside0.mk (fun w => good_any r d l s hs w)
  rw [h] at C
  clear h
  unfold lkV at *
  go_enter Try.func9, Try.ntmps9
  go_wp2_with fail
  refine (C.out _).mono ?_
  rintro e w1 ⟨rfl, hB⟩
  have hA := (Below.refl w.heap.size w).alloc (Nat.le_refl _) (.cells #[.int .i64 r, .int .i64 d, .int .i64 l, .int .i64 s] 23)
  have H1 := (hB.block _ (blk_lt (blk_new w (.cells #[.int .i64 r, .int .i64 d, .int .i64 l, .int .i64 s] 23)))).trans (blk_new w (.cells #[.int .i64 r, .int .i64 d, .int .i64 l, .int .i64 s] 23))
  have c0 := blk_cell H1 0
  have c1 := blk_cell H1 1
  have c2 := blk_cell H1 2
  have c3 := blk_cell H1 3
  simp only [List.getElem?_toArray, List.getElem?_cons_zero, List.getElem?_cons_succ] at c0 c1 c2 c3
  have hB2 := hA.trans (hB.mono hA.size)
  clear H1 hB hA
  go_wp2_with fail
  go_ret2
  refine ⟨_, rfl, ⟨hB2.size, blk_new _ _, Kd.Q_nil _ _ _ _ _⟩, hB2.alloc hB2.size _⟩
theorem lknew_bad (r d l s : Int) (hs : I64 s) (w : World) (h : goodLk r d l s = false) : Calls Try.prog 9 #[lkV r d l s] w fun e w' => e = .returned (.tuple #[.pointer none, .int .i64 1]) ∧ Below w.heap.size w w' := by
  have C := Aside0.mk (fun w => good_any r d l s hs w)
  rw [h] at C
  clear h
  unfold lkV at *
  go_enter Try.func9, Try.ntmps9
  go_wp2_with fail
  refine (C.out _).mono ?_
  rintro e w1 ⟨rfl, hB⟩
  go_wp2_with fail
  go_ret2
  have hA := (Below.refl w.heap.size w).alloc (Nat.le_refl _) (.cells #[.int .i64 r, .int .i64 d, .int .i64 l, .int .i64 s] 23)
  exact ⟨rfl, hA.trans (hB.mono hA.size)⟩
end Go.Proofs.Ytaghgjmcjmjfiaa.B
