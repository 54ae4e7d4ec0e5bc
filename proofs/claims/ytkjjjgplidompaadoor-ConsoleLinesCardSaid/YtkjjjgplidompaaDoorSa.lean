import Derived.Test.YtkjjjgplidompaaDoorWd
namespace Go.Proofs.YtkjjjgplidompaaDoor.B
open Go.RowKit Go.Proofs.YtkjjjgplidompaaDoorW.PrintWords Go.Proofs.YtkjjjgplidompaaDoorW.PrintLast Go.Proofs.YtkjjjgplidompaaDoorW.PrintMore
set_option linter.unusedVariables false
set_option linter.unusedSimpArgs false
def I64 (a : Int) : Prop := -9223372036854775808 ≤ a ∧ a ≤ 9223372036854775807
instance (a : Int) : Decidable (I64 a) := inferInstanceAs (Decidable (_ ∧ _))
def sumL (l : List Int) : Int := l.foldl (· + ·) 0
theorem sumL_nil : sumL [] = 0 := rfl
theorem sumL_snoc (l : List Int) (a : Int) : sumL (l ++ [a]) = sumL l + a := by simp [sumL]
theorem sumL_one (a : Int) : sumL [a] = a := by simp [sumL]
theorem sumL_two (a b : Int) : sumL [a, b] = a + b := by simp [sumL]
theorem plus_step (M n : Int) (hn : I64 n) : ∃ k k2 : Int, 0 ≤ k ∧ k ≤ 1 ∧ k = (lo64 M + IntKind.u64.wrap n + 0) / 18446744073709551616 ∧ lo64 (M + n) = (lo64 M + IntKind.u64.wrap n + 0) % 18446744073709551616 ∧
    hi64 (M + n) = (hi64 M + IntKind.u64.wrap (n / 9223372036854775808) + k) % 18446744073709551616 ∧ k2 = (hi64 M + IntKind.u64.wrap (n / 9223372036854775808) + k) / 18446744073709551616 := by
  refine ⟨_, _, ?_, ?_, rfl, ?_, ?_, rfl⟩ <;> (unfold I64 at hn; rw [IntKind.wrap_u64]; try rw [IntKind.wrap_u64]) <;> (try unfold lo64) <;> (try unfold hi64)
  · omega
  · omega
  · omega
  · have e : n / 9223372036854775808 = 0 ∨ n / 9223372036854775808 = -1 := by omega
    rcases e with e | e <;> rw [e] <;> omega
/-- A number's distance from 0. -/
def absI (a : Int) : Int := if a < 0 then -a else a
theorem absI_cases (a : Int) : (a < 0 ∧ absI a = -a) ∨ (0 ≤ a ∧ absI a = a) := by unfold absI; split <;> omega
theorem max_hold (a : Int) (ha : I64 a) : max a (hold (-a)) = hold (absI a) := by
  unfold absI
  unfold I64 at ha
  unfold hold
  (repeat' split) <;> omega
end Go.Proofs.YtkjjjgplidompaaDoor.B
