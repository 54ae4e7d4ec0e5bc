/-
  A number between two others, as the program has it.
-/
import Derived.Test.YtaghgjmcjmjfiaaSa
namespace Go.Proofs.Ytaghgjmcjmjfiaa.B
open Go.RowKit Go.Proofs.YtaghgjmcjmjfiaaW.PrintWords Go.Proofs.YtaghgjmcjmjfiaaW.PrintLast Go.Proofs.YtaghgjmcjmjfiaaW.PrintMore
set_option linter.unusedVariables false
set_option linter.unusedSimpArgs false
/-- A number, held between two others. -/
def cl (a lo hi : Int) : Int := if a < lo then lo else if hi < a then hi else a
theorem cl_range {a lo hi : Int} (h : lo ≤ hi) : lo ≤ cl a lo hi ∧ cl a lo hi ≤ hi := by unfold cl; split; omega; split <;> omega
theorem cl_in {a lo hi : Int} (h : lo ≤ a) (h' : a ≤ hi) : cl a lo hi = a := by unfold cl; rw [if_neg (by omega), if_neg (by omega)]
theorem cl_i64 {a lo hi : Int} (h0 : I64 a) (h1 : I64 lo) (h2 : I64 hi) : I64 (cl a lo hi) := by unfold cl; split; exact h1; split; exact h2; exact h0
end Go.Proofs.Ytaghgjmcjmjfiaa.B
