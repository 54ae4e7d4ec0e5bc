/-
  The second controller: its making, and what only looks at it. Walks over the program.
-/
import Derived.Test.YtbdnbndmiekejaaDoorVp
import Derived.Test.YtbdnbndmiekejaaDoorTo
import Derived.Test.YtbdnbndmiekejaaDoorRw
namespace Go.Proofs.YtbdnbndmiekejaaDoor.B
open Go.RowKit Go.Proofs.YtbdnbndmiekejaaDoorW.PrintWords Go.Proofs.YtbdnbndmiekejaaDoorW.PrintLast Go.Proofs.YtbdnbndmiekejaaDoorW.PrintMore
set_option linter.unusedVariables false
set_option linter.unusedSimpArgs false
/-- The controller. -/
structure Nd where
  rate : Int
  lo : Int
  hi : Int
  sig : Int
  any : Bool
  last : Int
  ramps : Bool
def NdIs (w : World) (g : Nat) (s : Nd) : Prop := w.heap[g]? = some (.cells #[.int .i64 s.rate, .int .i64 s.lo, .int .i64 s.hi, .int .i64 s.sig, .bool s.any, .int .i64 s.last, .bool s.ramps] 49 (0, 0))
/-- The numbers lie where the program lays them. -/
def Numbers (w : World) : Prop := w.cell? ⟨0, 0, none⟩ = some (.int .i64 50000) ∧ w.cell? ⟨0, 1, none⟩ = some (.int .i64 10000) ∧ w.cell? ⟨0, 2, none⟩ = some (.int .i64 500000) ∧ w.cell? ⟨0, 3, none⟩ = some (.int .i64 100000) ∧ w.cell? ⟨0, 4, none⟩ = some (.int .i64 100000) ∧ w.cell? ⟨0, 5, none⟩ = some (.int .i64 3) ∧ w.cell? ⟨0, 6, none⟩ = some (.int .i64 10000) ∧ w.cell? ⟨0, 7, none⟩ = some (.int .i64 50000) ∧ w.cell? ⟨0, 8, none⟩ = some (.int .i64 2) ∧ w.cell? ⟨0, 9, none⟩ = some (.int .i64 20000)
/-- Both tables lie where the program lays them, in this world and in each that has their blocks. -/
def Tabs (w : World) : Prop := Factors w ∧ Numbers w
theorem Tabs.to {w w1 : World} (h : Tabs w) (k1 : w1.heap[(1 : Nat)]? = w.heap[(1 : Nat)]?) (k2 : w1.heap[(0 : Nat)]? = w.heap[(0 : Nat)]?) : Tabs w1 := by
  have hf : ∀ (o : Nat) (v : Value), w.cell? ⟨1, o, none⟩ = some v → w1.cell? ⟨1, o, none⟩ = some v := by
    intro o v h
    rw [World.cell?_of_block (w := w) k1]
    exact h
  have hn : ∀ (o : Nat) (v : Value), w.cell? ⟨0, o, none⟩ = some v → w1.cell? ⟨0, o, none⟩ = some v := by
    intro o v h
    rw [World.cell?_of_block (w := w) k2]
    exact h
  obtain ⟨⟨f0, f1, f2⟩, n0, n1, n2, n3, n4, n5, n6, n7, n8, n9⟩ := h
  exact ⟨⟨hf _ _ f0, hf _ _ f1, hf _ _ f2⟩, hn _ _ n0, hn _ _ n1, hn _ _ n2, hn _ _ n3, hn _ _ n4, hn _ _ n5, hn _ _ n6, hn _ _ n7, hn _ _ n8, hn _ _ n9⟩
theorem Tabs.lt {w : World} (h : Tabs w) : 1 < w.heap.size ∧ 0 < w.heap.size := ⟨World.block_lt_of_cell? w _ h.1.1, World.block_lt_of_cell? w _ h.2.1⟩
theorem Tabs.below {w w1 : World} (h : Tabs w) (k : Below w.heap.size w w1) : Tabs w1 := h.to (k.block _ h.lt.1) (k.block _ h.lt.2)
/-- A controller that was made since w0, where both tables lay. -/
def NdRun (w0 w : World) (g : Nat) (s : Nd) : Prop := NdIs w g s ∧ w0.heap.size ≤ g ∧ Tabs w0 ∧ Below w0.heap.size w0 w
theorem NdRun.below {w0 w w1 : World} {g : Nat} {s : Nd} (h : NdRun w0 w g s) (k : Below w.heap.size w w1) : NdRun w0 w1 g s := ⟨(k.block g (blk_lt h.1)).trans h.1, h.2.1, h.2.2.1, h.2.2.2.trans (k.mono h.2.2.2.size)⟩
theorem NdRun.tabs {w0 w : World} {g : Nat} {s : Nd} (h : NdRun w0 w g s) : Tabs w := h.2.2.1.below h.2.2.2
theorem NdRun.b {w0 w : World} {g : Nat} {s : Nd} (h : NdRun w0 w g s) : Below w0.heap.size w0 w := h.2.2.2
theorem NdRun.set {w0 w : World} {g : Nat} {s s' : Nd} (h : NdRun w0 w g s) (i : Nat) (v : Value) (hs : NdIs (w.setCell ⟨g, i, none⟩ v) g s') : NdRun w0 (w.setCell ⟨g, i, none⟩ v) g s' := ⟨hs, h.2.1, h.2.2.1, h.2.2.2.setCell (p := ⟨g, i, none⟩) h.2.1 v⟩
def goodNd (start lo hi : Int) : Bool := decide (1 ≤ lo ∧ lo ≤ start ∧ start ≤ hi ∧ hi ≤ 17179869184)
def Nd.made (start lo hi : Int) : Nd := ⟨start, lo, hi, 0, false, 0, false⟩
theorem ndnew_good (start lo hi : Int) (w : World) (h : goodNd start lo hi = true) : Calls Tryd.prog 11 #[.int .i64 start, .int .i64 lo, .int .i64 hi] w fun e w' => ∃ g : Nat, e = .returned (.tuple #[.pointer (some ⟨g, 0, none⟩), .int .i64 0]) ∧ w.heap.size ≤ g ∧ NdIs w' g (Nd.made start lo hi) ∧ Below w.heap.size w w' := by
  simp only [goodNd, decide_eq_true_eq] at h
  obtain ⟨h1, h2, h3, h4⟩ := h
  have d1 : decide (lo < 1) = false := by simp; omega
  have d2 : decide (start < lo) = false := by simp; omega
  have d3 : decide (hi < start) = false := by simp; omega
  have d4 : decide (17179869184 < hi) = false := by simp; omega
  go_enter Tryd.func11, Tryd.ntmps11
  go_wp2_with fail
  go_ret2
  exact ⟨_, rfl, Nat.le_refl _, blk_new _ _, (Below.refl _ _).alloc (Nat.le_refl _) _⟩
theorem ndnew_bad (start lo hi : Int) (w : World) (h : goodNd start lo hi = false) : Calls Tryd.prog 11 #[.int .i64 start, .int .i64 lo, .int .i64 hi] w fun e w' => e = .returned (.tuple #[.pointer none, .int .i64 1]) ∧ w' = w := by
  simp only [goodNd, decide_eq_false_iff_not] at h
  by_cases d1 : lo < 1
  · have e1 : decide (lo < 1) = true := by simp [d1]
    clear h
    go_enter Tryd.func11, Tryd.ntmps11
    go_wp2_with fail
    go_ret2
    exact ⟨rfl, rfl⟩
  have e1 : decide (lo < 1) = false := by simp; omega
  by_cases d2 : start < lo
  · have e2 : decide (start < lo) = true := by simp [d2]
    clear h
    go_enter Tryd.func11, Tryd.ntmps11
    go_wp2_with fail
    go_ret2
    exact ⟨rfl, rfl⟩
  have e2 : decide (start < lo) = false := by simp; omega
  by_cases d3 : hi < start
  · have e3 : decide (hi < start) = true := by simp [d3]
    clear h
    go_enter Tryd.func11, Tryd.ntmps11
    go_wp2_with fail
    go_ret2
    exact ⟨rfl, rfl⟩
  have e3 : decide (hi < start) = false := by simp; omega
  have e4 : decide (17179869184 < hi) = true := by simp; omega
  clear h
  go_enter Tryd.func11, Tryd.ntmps11
  go_wp2_with fail
  go_ret2
  exact ⟨rfl, rfl⟩
theorem ndrate_any (g : Nat) (s : Nd) (w : World) (hs : NdIs w g s) : Calls Tryd.prog 15 #[.pointer (some ⟨g, 0, none⟩)] w fun e w' => e = .returned (.int .i64 s.rate) ∧ w' = w := by
  have h0 := blk_cell hs 0
  simp only [List.getElem?_toArray, List.getElem?_cons_zero, List.getElem?_cons_succ] at h0
  clear hs
  go_enter Tryd.func15, Tryd.ntmps15
  go_wp2
  go_ret
  exact ⟨rfl, rfl⟩
theorem ndrate_nil (w : World) : Calls Tryd.prog 15 #[.pointer none] w fun e w' => e = .returned (.int .i64 0) ∧ w' = w := by
  go_enter Tryd.func15, Tryd.ntmps15
  go_wp2
  go_ret
  exact ⟨rfl, rfl⟩
theorem ndramps_any (g : Nat) (s : Nd) (w : World) (hs : NdIs w g s) : Calls Tryd.prog 13 #[.pointer (some ⟨g, 0, none⟩)] w fun e w' => e = .returned (.bool s.ramps) ∧ w' = w := by
  have h0 := blk_cell hs 6
  simp only [List.getElem?_toArray, List.getElem?_cons_zero, List.getElem?_cons_succ] at h0
  clear hs
  go_enter Tryd.func13, Tryd.ntmps13
  go_wp2
  go_ret
  exact ⟨rfl, rfl⟩
theorem ndramps_nil (w : World) : Calls Tryd.prog 13 #[.pointer none] w fun e w' => e = .returned (.bool false) ∧ w' = w := by
  go_enter Tryd.func13, Tryd.ntmps13
  go_wp2
  go_ret
  exact ⟨rfl, rfl⟩
theorem ndupdate_nil (d loss got rtt now : Int) (ecn : Bool) (w : World) : Calls Tryd.prog 12 #[.pointer none, .int .i64 d, .int .i64 loss, .bool ecn, .int .i64 got, .int .i64 rtt, .int .i64 now] w fun e w' => e = .returned (.int .i64 0) ∧ w' = w := by
  go_enter Tryd.func12, Tryd.ntmps12
  go_wp2
  go_ret
  exact ⟨rfl, rfl⟩
end Go.Proofs.YtbdnbndmiekejaaDoor.B
