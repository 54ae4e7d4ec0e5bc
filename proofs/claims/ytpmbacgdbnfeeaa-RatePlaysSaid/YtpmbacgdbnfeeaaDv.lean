/-
  A number of 128 bits, divided bit by bit. Plain laws, no program.
-/
import Derived.Test.YtpmbacgdbnfeeaaMo
namespace Go.Proofs.Ytpmbacgdbnfeeaa.B
set_option linter.unusedVariables false
set_option linter.unusedSimpArgs false
/-- What holds behind k bits; M is the number, times 2 to the k. -/
def PtOk (M c hi lo q left : Nat) (over : Bool) : Prop :=
  ∃ T Q : Nat, M = T * 340282366920938463463374607431768211456 + (hi * 18446744073709551616 + lo) ∧ hi < 18446744073709551616 ∧ lo < 18446744073709551616 ∧ T = c * Q + left ∧ left < c ∧ q = Q % 18446744073709551616 ∧ over = decide (18446744073709551616 ≤ Q)
theorem pt_start (hi lo c : Nat) (hc : 0 < c) (h0 : hi < 18446744073709551616) (h1 : lo < 18446744073709551616) : PtOk (hi * 18446744073709551616 + lo) c hi lo 0 0 false := ⟨0, 0, by omega, h0, h1, by simp, hc, by simp, by simp⟩
theorem pt_over (Q : Nat) : (decide (18446744073709551616 ≤ Q) || (Q % 18446744073709551616 / 9223372036854775808 == 1)) = decide (18446744073709551616 ≤ 2 * Q) ∧ (decide (18446744073709551616 ≤ Q) || (Q % 18446744073709551616 / 9223372036854775808 == 1)) = decide (18446744073709551616 ≤ 2 * Q + 1) := by
  by_cases h : 18446744073709551616 ≤ Q
  · rw [decide_eq_true h, decide_eq_true (show 18446744073709551616 ≤ 2 * Q by omega), decide_eq_true (show 18446744073709551616 ≤ 2 * Q + 1 by omega)]
    simp
  · rw [decide_eq_false h, Bool.false_or, Nat.mod_eq_of_lt (show Q < 18446744073709551616 by omega)]
    by_cases h2 : 9223372036854775808 ≤ Q
    · have e : Q / 9223372036854775808 = 1 := by omega
      rw [e, decide_eq_true (show 18446744073709551616 ≤ 2 * Q by omega), decide_eq_true (show 18446744073709551616 ≤ 2 * Q + 1 by omega)]
      simp
    · have e : Q / 9223372036854775808 = 0 := by omega
      rw [e, decide_eq_false (show ¬ 18446744073709551616 ≤ 2 * Q by omega), decide_eq_false (show ¬ 18446744073709551616 ≤ 2 * Q + 1 by omega)]
      simp
theorem pt_bits (M T hi lo : Nat) (h : M = T * 340282366920938463463374607431768211456 + (hi * 18446744073709551616 + lo)) (h0 : hi < 18446744073709551616) (h1 : lo < 18446744073709551616) :
    2 * M = (2 * T + hi / 9223372036854775808) * 340282366920938463463374607431768211456 + ((hi * 2 % 18446744073709551616 + lo / 9223372036854775808) * 18446744073709551616 + lo * 2 % 18446744073709551616) ∧ hi * 2 % 18446744073709551616 + lo / 9223372036854775808 < 18446744073709551616 ∧ lo * 2 % 18446744073709551616 < 18446744073709551616 := by
  have a1 : hi = 9223372036854775808 * (hi / 9223372036854775808) + hi % 9223372036854775808 := (Nat.div_add_mod _ _).symm
  have a2 : lo = 9223372036854775808 * (lo / 9223372036854775808) + lo % 9223372036854775808 := (Nat.div_add_mod _ _).symm
  have a3 : hi % 9223372036854775808 < 9223372036854775808 := Nat.mod_lt _ (by omega)
  have a4 : lo % 9223372036854775808 < 9223372036854775808 := Nat.mod_lt _ (by omega)
  have a5 : hi / 9223372036854775808 < 2 := by omega
  have a6 : lo / 9223372036854775808 < 2 := by omega
  generalize hi / 9223372036854775808 = u at *
  generalize lo / 9223372036854775808 = v at *
  generalize hi % 9223372036854775808 = x at *
  generalize lo % 9223372036854775808 = y at *
  have e1 : hi * 2 % 18446744073709551616 = 2 * x := by
    have : u = 0 ∨ u = 1 := by omega
    rcases this with rfl | rfl <;> omega
  have e2 : lo * 2 % 18446744073709551616 = 2 * y := by
    have : v = 0 ∨ v = 1 := by omega
    rcases this with rfl | rfl <;> omega
  rw [e1, e2]
  refine ⟨?_, by omega, by omega⟩
  subst h
  omega
theorem pt_step {M c hi lo q left : Nat} {over : Bool} (hc : c ≤ 9223372036854775808) (h : PtOk M c hi lo q left over) :
    left * 2 + hi / 9223372036854775808 < 18446744073709551616 ∧ q * 2 % 18446744073709551616 + 1 < 18446744073709551616 ∧ q < 18446744073709551616 ∧ left < 9223372036854775808 ∧ hi < 18446744073709551616 ∧ lo < 18446744073709551616 ∧ hi / 9223372036854775808 < 2 ∧ hi * 2 % 18446744073709551616 + lo / 9223372036854775808 < 18446744073709551616 ∧
    (c ≤ left * 2 + hi / 9223372036854775808 → PtOk (2 * M) c (hi * 2 % 18446744073709551616 + lo / 9223372036854775808) (lo * 2 % 18446744073709551616) (q * 2 % 18446744073709551616 + 1) (left * 2 + hi / 9223372036854775808 - c) (over || (q / 9223372036854775808 == 1))) ∧
    (left * 2 + hi / 9223372036854775808 < c → PtOk (2 * M) c (hi * 2 % 18446744073709551616 + lo / 9223372036854775808) (lo * 2 % 18446744073709551616) (q * 2 % 18446744073709551616) (left * 2 + hi / 9223372036854775808) (over || (q / 9223372036854775808 == 1))) := by
  obtain ⟨T, Q, hM, hh, hl, hT, hlc, hq, ho⟩ := h
  obtain ⟨b1, b2, b3⟩ := pt_bits M T hi lo hM hh hl
  have hb : hi / 9223372036854775808 < 2 := by omega
  have hov := pt_over Q
  have hqlt : q < 18446744073709551616 := by rw [hq]; exact Nat.mod_lt _ (by omega)
  have hq2 : q * 2 % 18446744073709551616 = 2 * Q % 18446744073709551616 := by rw [hq]; omega
  have hq3 : 2 * Q % 18446744073709551616 + 1 < 18446744073709551616 := by omega
  have hq4 : (2 * Q + 1) % 18446744073709551616 = 2 * Q % 18446744073709551616 + 1 := by omega
  have hT2 : c * (2 * Q) = 2 * (c * Q) := by rw [Nat.mul_left_comm]
  have hT3 : c * (2 * Q + 1) = 2 * (c * Q) + c := by rw [Nat.mul_add, hT2, Nat.mul_one]
  refine ⟨by omega, by omega, hqlt, by omega, hh, hl, hb, b2, fun hge => ?_, fun hlt => ?_⟩
  · refine ⟨2 * T + hi / 9223372036854775808, 2 * Q + 1, b1, b2, b3, ?_, ?_, ?_, ?_⟩
    · rw [hT3]
      generalize hi / 9223372036854775808 = u at *
      generalize c * Q = P at *
      omega
    · omega
    · rw [hq4, hq2]
    · rw [ho, hq]
      exact hov.2
  · refine ⟨2 * T + hi / 9223372036854775808, 2 * Q, b1, b2, b3, ?_, ?_, ?_, ?_⟩
    · rw [hT2]
      generalize hi / 9223372036854775808 = u at *
      generalize c * Q = P at *
      omega
    · exact hlt
    · exact hq2
    · rw [ho, hq]
      exact hov.1
theorem pt_end {N c hi lo q left : Nat} {over : Bool} (hc : 0 < c) (h : PtOk (N * 340282366920938463463374607431768211456) c hi lo q left over) : q = N / c % 18446744073709551616 ∧ left = N % c ∧ over = decide (18446744073709551616 ≤ N / c) := by
  obtain ⟨T, Q, hM, hh, hl, hT, hlc, hq, ho⟩ := h
  have e : T = N := by omega
  subst e
  have e1 : T / c = Q := by
    rw [hT, Nat.mul_add_div hc, Nat.div_eq_of_lt hlc, Nat.add_zero]
  have e2 : T % c = left := by
    rw [hT, Nat.mul_add_mod, Nat.mod_eq_of_lt hlc]
  rw [e1, e2]
  exact ⟨hq, rfl, ho⟩
/-- The product by halves of 32 bits. -/
theorem times_core (a b a0 a1 b0 b1 : Nat) (ha : a = a1 * 4294967296 + a0) (hb : b = b1 * 4294967296 + b0) (h0 : a0 < 4294967296) (h1 : a1 < 4294967296) (h2 : b0 < 4294967296) (h3 : b1 < 4294967296) (x y z : Nat) (hx : x = a0 * b0) (hy : y = a1 * b0 + x / 4294967296) (hz : z = a0 * b1 + y % 4294967296) :
    x < 18446744073709551616 ∧ y < 18446744073709551616 ∧ z < 18446744073709551616 ∧ a1 * b1 + y / 4294967296 + z / 4294967296 < 18446744073709551616 ∧ z * 4294967296 % 18446744073709551616 + x % 4294967296 < 18446744073709551616 ∧
    a * b = (a1 * b1 + y / 4294967296 + z / 4294967296) * 18446744073709551616 + (z * 4294967296 % 18446744073709551616 + x % 4294967296) ∧ a1 * b1 < 18446744073709551616 ∧ a1 * b0 < 18446744073709551616 ∧ a0 * b1 < 18446744073709551616 := by
  have m : ∀ p q : Nat, p < 4294967296 → q < 4294967296 → p * q ≤ 18446744065119617025 := fun p q hp hq => Nat.mul_le_mul (show p ≤ 4294967295 by omega) (show q ≤ 4294967295 by omega)
  have m00 := m a0 b0 h0 h2
  have m10 := m a1 b0 h1 h2
  have m01 := m a0 b1 h0 h3
  have m11 := m a1 b1 h1 h3
  have e : a * b = a1 * b1 * 18446744073709551616 + (a1 * b0 + a0 * b1) * 4294967296 + a0 * b0 := by
    subst ha hb
    rw [Nat.add_mul, Nat.mul_add, Nat.mul_add]
    have e1 : a1 * 4294967296 * (b1 * 4294967296) = a1 * b1 * 18446744073709551616 := by rw [Nat.mul_mul_mul_comm]
    have e2 : a1 * 4294967296 * b0 = a1 * b0 * 4294967296 := by rw [Nat.mul_right_comm]
    have e3 : a0 * (b1 * 4294967296) = a0 * b1 * 4294967296 := by rw [Nat.mul_assoc]
    rw [e1, e2, e3]
    omega
  rw [e]
  generalize a1 * b1 = p11 at *
  generalize a1 * b0 = p10 at *
  generalize a0 * b1 = p01 at *
  generalize a0 * b0 = p00 at *
  clear ha hb e
  subst hx
  have dx : x = 4294967296 * (x / 4294967296) + x % 4294967296 := (Nat.div_add_mod _ _).symm
  have dx2 : x % 4294967296 < 4294967296 := Nat.mod_lt _ (by omega)
  generalize x / 4294967296 = xq at *
  generalize x % 4294967296 = xr at *
  have dy : y = 4294967296 * (y / 4294967296) + y % 4294967296 := (Nat.div_add_mod _ _).symm
  have dy2 : y % 4294967296 < 4294967296 := Nat.mod_lt _ (by omega)
  generalize y / 4294967296 = yq at *
  generalize y % 4294967296 = yr at *
  have dz : z = 4294967296 * (z / 4294967296) + z % 4294967296 := (Nat.div_add_mod _ _).symm
  have dz2 : z % 4294967296 < 4294967296 := Nat.mod_lt _ (by omega)
  have ez : z * 4294967296 % 18446744073709551616 = z % 4294967296 * 4294967296 := by omega
  rw [ez]
  generalize z / 4294967296 = zq at *
  generalize z % 4294967296 = zr at *
  refine ⟨by omega, by omega, by omega, by omega, by omega, by omega, by omega, by omega, by omega⟩
end Go.Proofs.Ytpmbacgdbnfeeaa.B
