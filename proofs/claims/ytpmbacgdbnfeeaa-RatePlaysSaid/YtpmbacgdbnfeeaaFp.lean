/-
  A product, divided and rounded: closed forms. Plain laws, no program.
-/
import Derived.Test.YtpmbacgdbnfeeaaFx
namespace Go.Proofs.Ytpmbacgdbnfeeaa.B
set_option linter.unusedVariables false
set_option linter.unusedSimpArgs false
theorem ediv_is {a b q r : Int} (hb : 0 < b) (h : r + b * q = a) (h0 : 0 ≤ r) (h1 : r < b) : a / b = q := ((Int.ediv_emod_unique hb).2 ⟨h, h0, h1⟩).1
/-- The sign, and what is divided. -/
theorem sign_cases (a b c : Int) (hc : 0 < c) : (signB a b c = false ∧ a * b = ((a.natAbs * b.natAbs : Nat) : Int)) ∨ (signB a b c = true ∧ a * b = -((a.natAbs * b.natAbs : Nat) : Int)) := by
  have hcn : decide (c < 0) = false := decide_eq_false (by omega)
  unfold signB
  rw [hcn]
  by_cases ha : a < 0
  · have ea : a = -((a.natAbs : Nat) : Int) := by omega
    by_cases hb : b < 0
    · have eb : b = -((b.natAbs : Nat) : Int) := by omega
      left
      refine ⟨by simp [ha, hb], ?_⟩
      rw [Int.natCast_mul]
      generalize a.natAbs = x at *
      generalize b.natAbs = y at *
      subst ea eb
      rw [Int.neg_mul_neg]
    · have eb : b = ((b.natAbs : Nat) : Int) := by omega
      right
      refine ⟨by simp [ha, hb], ?_⟩
      rw [Int.natCast_mul]
      generalize a.natAbs = x at *
      generalize b.natAbs = y at *
      subst ea eb
      rw [Int.neg_mul]
  · have ea : a = ((a.natAbs : Nat) : Int) := by omega
    by_cases hb : b < 0
    · have eb : b = -((b.natAbs : Nat) : Int) := by omega
      right
      refine ⟨by simp [ha, hb], ?_⟩
      rw [Int.natCast_mul]
      generalize a.natAbs = x at *
      generalize b.natAbs = y at *
      subst ea eb
      rw [Int.mul_neg]
    · have eb : b = ((b.natAbs : Nat) : Int) := by omega
      left
      refine ⟨by simp [ha, hb], ?_⟩
      rw [Int.natCast_mul]
      generalize a.natAbs = x at *
      generalize b.natAbs = y at *
      subst ea eb
      rfl
theorem down_core (N C : Nat) (hC : 0 < C) : (N : Int) / (C : Int) = ((N / C + (upB (N % C) C false 1).toNat : Nat) : Int) ∧ (-(N : Int)) / (C : Int) = -((N / C + (upB (N % C) C true 1).toNat : Nat) : Int) := by
  have hd := Nat.div_add_mod N C
  have hm := Nat.mod_lt N hC
  generalize N / C = Q at *
  generalize N % C = R at *
  subst hd
  have hCQ : (((C * Q + R : Nat) : Int)) = (C : Int) * (Q : Int) + (R : Int) := by push_cast; rfl
  rw [hCQ]
  constructor
  · apply ediv_is (r := (R : Int)) (by omega)
    · simp [upB]
      omega
    · omega
    · omega
  · by_cases h : R = 0
    · subst h
      apply ediv_is (r := 0) (by omega)
      · simp [upB, Int.mul_neg]
      · omega
      · omega
    · have hu : (upB R C true 1).toNat = 1 := by simp [upB]; omega
      rw [hu]
      apply ediv_is (r := (C : Int) - (R : Int)) (by omega)
      · push_cast
        rw [Int.mul_neg, Int.mul_add, Int.mul_one]
        omega
      · omega
      · omega
theorem near_core (N C : Nat) (hC : 0 < C) : (2 * (N : Int) + (C : Int)) / (2 * (C : Int)) = ((N / C + (upB (N % C) C false 2).toNat : Nat) : Int) ∧ (2 * (-(N : Int)) + (C : Int)) / (2 * (C : Int)) = -((N / C + (upB (N % C) C true 2).toNat : Nat) : Int) := by
  have hd := Nat.div_add_mod N C
  have hm := Nat.mod_lt N hC
  generalize N / C = Q at *
  generalize N % C = R at *
  subst hd
  have hCQ : (((C * Q + R : Nat) : Int)) = (C : Int) * (Q : Int) + (R : Int) := by push_cast; rfl
  rw [hCQ]
  constructor
  · by_cases h : C ≤ R + R
    · have hu : (upB R C false 2).toNat = 1 := by simp [upB]; omega
      rw [hu]
      apply ediv_is (r := 2 * (R : Int) - (C : Int)) (by omega)
      · push_cast
        rw [Int.mul_assoc, Int.mul_add, Int.mul_one]
        omega
      · omega
      · omega
    · have hu : (upB R C false 2).toNat = 0 := by simp [upB]; omega
      rw [hu]
      apply ediv_is (r := 2 * (R : Int) + (C : Int)) (by omega)
      · push_cast
        rw [Int.mul_assoc, Int.add_zero]
        omega
      · omega
      · omega
  · by_cases h : C < R + R
    · have hu : (upB R C true 2).toNat = 1 := by simp [upB]; omega
      rw [hu]
      apply ediv_is (r := 3 * (C : Int) - 2 * (R : Int)) (by omega)
      · push_cast
        rw [Int.mul_assoc, Int.mul_neg, Int.mul_add, Int.mul_one]
        omega
      · omega
      · omega
    · have hu : (upB R C true 2).toNat = 0 := by simp [upB]; omega
      rw [hu]
      apply ediv_is (r := (C : Int) - 2 * (R : Int)) (by omega)
      · push_cast
        rw [Int.mul_assoc, Int.mul_neg, Int.add_zero]
        omega
      · omega
      · omega
theorem mdo_down (a b c : Int) (hc : 0 < c) : mdo a b c 1 = hold (a * b / c) := by
  unfold mdo quoN
  rw [if_neg (by omega)]
  obtain ⟨C, rfl⟩ := Int.eq_ofNat_of_zero_le (Int.le_of_lt hc)
  have hC : 0 < C := by omega
  have hcore := down_core (a.natAbs * b.natAbs) C hC
  rw [Int.natAbs_natCast]
  rcases sign_cases a b C hc with ⟨hs, he⟩ | ⟨hs, he⟩
  · rw [hs, he, hcore.1]
    simp
  · rw [hs, he, hcore.2]
    simp
theorem mdo_near (a b c : Int) (hc : 0 < c) : mdo a b c 2 = hold ((2 * (a * b) + c) / (2 * c)) := by
  unfold mdo quoN
  rw [if_neg (by omega)]
  obtain ⟨C, rfl⟩ := Int.eq_ofNat_of_zero_le (Int.le_of_lt hc)
  have hC : 0 < C := by omega
  have hcore := near_core (a.natAbs * b.natAbs) C hC
  rw [Int.natAbs_natCast]
  rcases sign_cases a b C hc with ⟨hs, he⟩ | ⟨hs, he⟩
  · rw [hs, he, hcore.1]
    simp
  · rw [hs, he, hcore.2]
    simp
/-- What divides without rest. -/
theorem near_exact (q : Int) : (2 * (q * 4294967296) + 4294967296) / 8589934592 = q := ediv_is (r := 4294967296) (by omega) (by omega) (by omega) (by omega)
theorem mul_one (x : Int) (hx : I64 x) : mdo x 4294967296 4294967296 2 = x := by
  rw [mdo_near x _ _ (by omega), show (2 : Int) * 4294967296 = 8589934592 from rfl, near_exact]
  exact hold_in hx.1 hx.2
theorem mul_zero (x : Int) : mdo x 0 4294967296 2 = 0 := by
  rw [mdo_near x _ _ (by omega), Int.mul_zero]
  decide
theorem int_of (k : Int) (h0 : -2147483648 ≤ k) (h1 : k ≤ 2147483647) : mdo (hold (k * 4294967296)) 1 4294967296 1 = k := by
  rw [hold_in (by omega) (by omega), mdo_down _ _ _ (by omega), Int.mul_one, Int.mul_ediv_cancel _ (by omega)]
  exact hold_in (by omega) (by omega)
theorem mul_of (k : Int) (h0 : -2147483648 ≤ k) (h1 : k ≤ 2147483647) : mdo (hold (k * 4294967296)) (hold (3 * 4294967296)) 4294967296 2 = hold (3 * k * 4294967296) := by
  rw [hold_in (n := k * 4294967296) (by omega) (by omega), show hold (3 * 4294967296) = 12884901888 from by decide, mdo_near _ _ _ (by omega), show (2 : Int) * 4294967296 = 8589934592 from rfl]
  have e : k * 4294967296 * 12884901888 = (3 * k * 4294967296) * 4294967296 := by omega
  rw [e, near_exact]
/-- A number mixed by nothing, and by all. -/
theorem mix_zero (a d : Int) (ha : I64 a) : hold (a + mdo d 0 4294967296 2) = a := by
  rw [mul_zero, Int.add_zero]
  exact hold_in ha.1 ha.2
theorem mix_all (a b : Int) (ha0 : -2305843009213693952 < a) (ha1 : a < 2305843009213693952) (hb0 : -2305843009213693952 < b) (hb1 : b < 2305843009213693952) : hold (a + mdo (hold (b - a)) 4294967296 4294967296 2) = b := by
  rw [hold_in (n := b - a) (by omega) (by omega), mul_one _ ⟨by omega, by omega⟩, hold_in (by omega) (by omega)]
  omega
/-- What is mixed lies between. -/
theorem near_le {n m : Int} (h : n ≤ m) : (2 * n + 4294967296) / 8589934592 ≤ (2 * m + 4294967296) / 8589934592 := Int.ediv_le_ediv (by omega) (by omega)
theorem mix_between (a b w : Int) (ha0 : -2305843009213693952 < a) (ha1 : a < 2305843009213693952) (hb0 : -2305843009213693952 < b) (hb1 : b < 2305843009213693952) (hw0 : 0 ≤ w) (hw1 : w ≤ 4294967295) :
    min a b ≤ hold (a + mdo (hold (b - a)) w 4294967296 2) ∧ hold (a + mdo (hold (b - a)) w 4294967296 2) ≤ max a b := by
  rw [hold_in (n := b - a) (by omega) (by omega), mdo_near _ _ _ (by omega), show (2 : Int) * 4294967296 = 8589934592 from rfl]
  obtain ⟨D, hD⟩ : ∃ D, D = b - a := ⟨_, rfl⟩
  rw [← hD]
  obtain ⟨M, hM⟩ : ∃ M, M = (2 * (D * w) + 4294967296) / 8589934592 := ⟨_, rfl⟩
  have hb : (0 ≤ M ∧ M ≤ D) ∨ (D ≤ M ∧ M ≤ 0) := by
    rw [hM]
    by_cases h : 0 ≤ D
    · left
      have h1 := near_le (Int.mul_nonneg h hw0)
      have h2 := near_le (Int.mul_le_mul_of_nonneg_left (show w ≤ 4294967296 by omega) h)
      rw [near_exact] at h2
      exact ⟨by have : ((2 : Int) * 0 + 4294967296) / 8589934592 = 0 := by decide
                omega, h2⟩
    · right
      have h1 := near_le (Int.mul_nonpos_of_nonpos_of_nonneg (show D ≤ 0 by omega) hw0)
      have h2 := near_le (Int.mul_le_mul_of_nonpos_left (show D ≤ 0 by omega) (show w ≤ 4294967296 by omega))
      rw [near_exact] at h2
      exact ⟨h2, by have : ((2 : Int) * 0 + 4294967296) / 8589934592 = 0 := by decide
                    omega⟩
  rw [← hM]
  rw [hold_in (n := M) (by omega) (by omega), hold_in (by omega) (by omega)]
  omega
/-- Halved. -/
theorem half_half (x : Int) (a b : Nat) : x / 2 ^ a / 2 ^ b = x / 2 ^ (a + b) := by
  have hp : ¬ ((2 : Int) ^ a < 0) := Int.not_lt.2 (Int.le_of_lt (Int.pow_pos (by omega)))
  rw [Int.ediv_ediv, if_neg (fun h => hp h.1), Int.sub_zero, Int.pow_add]
theorem half_mono (x y : Int) (a : Nat) (h : x ≤ y) : x / 2 ^ a ≤ y / 2 ^ a := Int.ediv_le_ediv (Int.pow_pos (by omega)) h
end Go.Proofs.Ytpmbacgdbnfeeaa.B
