/-
  A message taken apart: the give-up that panics, and the deferred closure that takes it up. Walks over the program.
-/
import Derived.Test.YteegleldmnokkaaJn
import Derived.Defers
import Derived.Recover
import Derived.Laws.Pointers
import Derived.WalkLawsBesides
namespace Go.Proofs.Yteegleldmnokkaa.B
open Go.RowKit Go.Proofs.YteegleldmnokkaaW.PrintWords Go.Proofs.YteegleldmnokkaaW.PrintLast Go.Proofs.YteegleldmnokkaaW.PrintMore
set_option linter.unusedVariables false
set_option linter.unusedSimpArgs false
/-- A fault that is on its way. -/
def faultV (e : Int) : PanicEntry := { v := .iface 57 (.agg #[.int .i64 e]), recovered := false }
theorem want_yes (e : Int) (w : World) : Calls Try.prog 22 #[.bool true, .int .i64 e] w fun r w' => r = .returned (.tuple #[]) ∧ w' = w := by
  go_enter Try.func22, Try.ntmps22
  go_wp2_with fail
  go_end0
  exact ⟨rfl, rfl⟩
theorem want_no (e : Int) (w : World) : Calls Try.prog 22 #[.bool false, .int .i64 e] w fun r w' => r = .panicked [faultV e] ∧ w' = w := by
  go_enter Try.func22, Try.ntmps22
  go_wp2_with fail
  exact ⟨rfl, rfl, rfl⟩
theorem catch_idle (a b : Addr) (w : World) :
    CallsD Try.prog 21 #[.pointer (some a), .pointer (some b)] .returning w fun e u' w' => e = .returned (.tuple #[]) ∧ u' = .returning ∧ w' = w := by
  refine callsD_of_wpS Try.func21 rfl fun c₀ cs hu => ?_
  apply wpS_seq
  apply wpS_region
  simp [wpOpsS, go_sem, recoverD, hu, Try.ntmps21, Exit.thenS]
  refine wpS_of_wp ?_
  simp only [show (#[Value.pointer (some a), Value.pointer (some b)] ++ (Array.replicate 11 undef).setIfInBounds 3 Value.nilIface) = #[.pointer (some a), .pointer (some b), undef, undef, undef, .nilIface, undef, undef, undef, undef, undef, undef, undef] from rfl]
  go_wp2_with fail
  cases c₀
  simp_all [bodyPostS, results, Try.results21]
theorem catch_fault (g1 g2 : Nat) (e : Int) (w : World) (x y : Value) (hne : ¬ g1 = g2) (ha : w.cell? ⟨g1, 0, none⟩ = some x) (hb : w.cell? ⟨g2, 0, none⟩ = some y) (fa : w.frozen? ⟨g1, 0, none⟩ = false) (fb : w.frozen? ⟨g2, 0, none⟩ = false) :
    CallsD Try.prog 21 #[.pointer (some ⟨g1, 0, none⟩), .pointer (some ⟨g2, 0, none⟩)] (.panicking [faultV e]) w fun r u' w' => r = .returned (.tuple #[]) ∧ u' = .panicking [{ faultV e with recovered := true }] ∧ w' = (((w.setCell ⟨g1, 0, none⟩ (.slice none 0 0)).setCell ⟨g2, 0, none⟩ (.int .i64 e)).alloc (.cells #[.int .i64 e] 57)).drew := by
  have hl1 := World.block_lt_of_cell? w _ ha
  have hl2 := World.block_lt_of_cell? w _ hb
  dsimp only at hl1 hl2
  have hta : ∀ w : World, (Instr.typeAssert (Value.iface 57 (.agg #[.int .i64 e])) 20 57 true).run Try.prog w = .ok (.tuple #[.agg #[.int .i64 e], .bool true]) w := fun _ => by kernel_rfl
  refine callsD_of_wpS Try.func21 rfl fun c₀ cs hu => ?_
  apply wpS_seq
  apply wpS_region
  simp [wpOpsS, go_sem, recoverD, hu, Try.ntmps21, Exit.thenS, faultV]
  refine wpS_of_wp ?_
  simp only [show (#[Value.pointer (some ⟨g1, 0, none⟩), Value.pointer (some ⟨g2, 0, none⟩)] ++ (Array.replicate 11 undef).setIfInBounds 3 (Value.iface 57 (Value.agg #[Value.int IntKind.i64 e]))) = #[.pointer (some ⟨g1, 0, none⟩), .pointer (some ⟨g2, 0, none⟩), undef, undef, undef, .iface 57 (.agg #[.int .i64 e]), undef, undef, undef, undef, undef, undef, undef] from rfl]
  go_wp2_with fail
  go_region
  all_goals go_wp2_with fail
  all_goals (cases c₀; simp_all [bodyPostS, results, Try.results21])
end Go.Proofs.Yteegleldmnokkaa.B
