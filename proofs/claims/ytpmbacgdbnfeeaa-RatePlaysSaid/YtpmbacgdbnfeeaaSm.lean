/-
  The program's product of whole numbers that does not go round.
-/
import Derived.Test.YtpmbacgdbnfeeaaMw
namespace Go.Proofs.Ytpmbacgdbnfeeaa.B
open Go.RowKit Go.Proofs.YtpmbacgdbnfeeaaW.PrintWords Go.Proofs.YtpmbacgdbnfeeaaW.PrintLast Go.Proofs.YtpmbacgdbnfeeaaW.PrintMore
set_option linter.unusedVariables false
set_option linter.unusedSimpArgs false
theorem ones_and (y : Nat) (hy : y < 18446744073709551616) : bits .and .u64 18446744073709551615 (y : Int) = y := by
  have h := bits_and_u64_nat 18446744073709551615 y (by omega) hy
  have e : 18446744073709551615 &&& y = y % 18446744073709551616 := by
    rw [Nat.and_comm]
    exact Nat.and_two_pow_sub_one_eq_mod y 64
  rw [e] at h
  refine (show bits .and .u64 ((18446744073709551615 : Nat) : Int) (y : Int) = _ from h).trans ?_
  omega
theorem zero_and (y : Nat) (hy : y < 18446744073709551616) : bits .and .u64 0 (y : Int) = 0 := by
  have h := bits_and_u64_nat 0 y (by omega) hy
  rw [Nat.zero_and] at h
  exact h
def signX (a : Int) (u : Int) : Int := if a < 0 then u else 0
theorem sign_and (a : Int) (ha : I64 a) (u : Nat) (hu : u < 18446744073709551616) : bits .and .u64 (IntKind.u64.wrap (a / 9223372036854775808)) (u : Int) = signX a u := by
  unfold I64 at ha
  unfold signX
  by_cases h : a < 0
  · rw [if_pos h, show IntKind.u64.wrap (a / 9223372036854775808) = 18446744073709551615 by rw [IntKind.wrap_u64]; omega, ones_and u hu]
  · rw [if_neg h, show IntKind.u64.wrap (a / 9223372036854775808) = 0 by rw [IntKind.wrap_u64]; omega, zero_and u hu]
theorem mul_wide (a b : Int) (ha : I64 a) (hb : I64 b) (ua ub : Nat) (hua : (ua : Int) = a % 18446744073709551616) (hub : (ub : Int) = b % 18446744073709551616) :
    IntKind.u64.wrap (((ua * ub / 18446744073709551616 : Nat) : Int) - IntKind.u64.wrap (signX a ub + signX b ua)) = hi64 (a * b) ∧ ((ua * ub % 18446744073709551616 : Nat) : Int) = lo64 (a * b) := by
  unfold I64 at ha hb
  have hp : ((ua * ub : Nat) : Int) = (ua : Int) * ub := Int.natCast_mul ua ub
  have hua' : (ua : Int) = if a < 0 then a + 18446744073709551616 else a := by split <;> omega
  have hub' : (ub : Int) = if b < 0 then b + 18446744073709551616 else b := by split <;> omega
  generalize ua * ub = P at *
  unfold signX hi64 lo64
  rw [IntKind.wrap_u64, IntKind.wrap_u64]
  by_cases h1 : a < 0 <;> by_cases h2 : b < 0
  · rw [if_pos h1] at hua'
    rw [if_pos h2] at hub'
    rw [if_pos h1, if_pos h2]
    rw [hua', hub', Int.add_mul, Int.mul_add, Int.mul_add, Int.mul_comm a 18446744073709551616] at hp
    generalize a * b = m at *
    omega
  · rw [if_pos h1] at hua'
    rw [if_neg h2] at hub'
    rw [if_pos h1, if_neg h2]
    rw [hua', hub', Int.add_mul] at hp
    generalize a * b = m at *
    omega
  · rw [if_neg h1] at hua'
    rw [if_pos h2] at hub'
    rw [if_neg h1, if_pos h2]
    rw [hua', hub', Int.mul_add, Int.mul_comm a 18446744073709551616] at hp
    generalize a * b = m at *
    omega
  · rw [if_neg h1] at hua'
    rw [if_neg h2] at hub'
    rw [if_neg h1, if_neg h2]
    rw [hua', hub'] at hp
    generalize a * b = m at *
    omega
theorem mul_in_wide {a b : Int} (ha : I64 a) (hb : I64 b) : Wide (a * b) := by
  unfold I64 at ha hb
  have h1 : a.natAbs ≤ 9223372036854775808 := by omega
  have h2 : b.natAbs ≤ 9223372036854775808 := by omega
  have h3 : a.natAbs * b.natAbs ≤ 85070591730234615865843651857942052864 := Nat.le_trans (Nat.mul_le_mul h1 h2) (by decide)
  rw [← Int.natAbs_mul] at h3
  unfold Wide
  omega
end Go.Proofs.Ytpmbacgdbnfeeaa.B
