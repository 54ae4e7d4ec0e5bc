/-
  A number between two others, as the program has it.
-/
import Derived.Test.YthlgndgacmalaaaSa
namespace Go.Proofs.Ythlgndgacmalaaa.B
open Go.RowKit Go.Proofs.YthlgndgacmalaaaW.PrintWords Go.Proofs.YthlgndgacmalaaaW.PrintLast Go.Proofs.YthlgndgacmalaaaW.PrintMore
set_option linter.unusedVariables false
set_option linter.unusedSimpArgs false
/-- A number, held between two others. -/
def cl (a lo hi : Int) : Int := if a < lo then lo else if hi < a then hi else a
theorem cl_range {a lo hi : Int} (h : lo ≤ hi) : lo ≤ cl a lo hi ∧ cl a lo hi ≤ hi := by unfold cl; split; omega; split <;> omega
theorem cl_in {a lo hi : Int} (h : lo ≤ a) (h' : a ≤ hi) : cl a lo hi = a := by unfold cl; rw [if_neg (by omega), if_neg (by omega)]
theorem cl_i64 {a lo hi : Int} (h0 : I64 a) (h1 : I64 lo) (h2 : I64 hi) : I64 (cl a lo hi) := by unfold cl; split; exact h1; split; exact h2; exact h0
theorem clamp_any (a lo hi : Int) (w : World) : Calls Try.prog 23 #[.int .i64 a, .int .i64 lo, .int .i64 hi] w fun e w' => e = .returned (.int .i64 (cl a lo hi)) ∧ w' = w := by
  have hc : (a < lo ∧ cl a lo hi = lo) ∨ (lo ≤ a ∧ hi < a ∧ cl a lo hi = hi) ∨ (lo ≤ a ∧ a ≤ hi ∧ cl a lo hi = a) := by
    unfold cl; split; exact .inl ⟨by omega, rfl⟩; split; exact .inr (.inl ⟨by omega, by omega, rfl⟩); exact .inr (.inr ⟨by omega, by omega, rfl⟩)
  generalize cl a lo hi = V at *
  rcases hc with ⟨h, hV⟩ | ⟨h, h2, hV⟩ | ⟨h, h2, hV⟩
  all_goals
    subst hV
    go_enter Try.func23, Try.ntmps23
    go_wp2
    go_ret
    exact ⟨rfl, rfl⟩
end Go.Proofs.Ythlgndgacmalaaa.B
