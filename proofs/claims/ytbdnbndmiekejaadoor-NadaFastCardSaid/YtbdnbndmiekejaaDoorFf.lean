/-
  What a number fades to: plain laws, no program.
-/
import Derived.Test.YtbdnbndmiekejaaDoorFh
namespace Go.Proofs.YtbdnbndmiekejaaDoor.B
open Go.RowKit
set_option linter.unusedVariables false
set_option linter.unusedSimpArgs false
/-- A product, rounded. -/
def mI (a b : Int) : Int := (2 * (a * b) + 4294967296) / 8589934592
theorem mI_eq (a b : Int) (ha0 : 0 ≤ a) (ha1 : a ≤ 94489280512) (hb0 : 0 ≤ b) (hb1 : b ≤ 6196328019) : mdo a b 4294967296 2 = mI a b ∧ 0 ≤ mI a b ∧ mI a b ≤ 136319216419 := by
  have h1 := Int.mul_nonneg ha0 hb0
  have h2 := Int.mul_le_mul ha1 hb1 hb0 (by omega)
  rw [mdo_near _ _ _ (by omega), show (2 : Int) * 4294967296 = 8589934592 from rfl]
  unfold mI
  generalize a * b = P at *
  have h3 : 0 ≤ (2 * P + 4294967296) / 8589934592 := Int.ediv_nonneg (by omega) (by omega)
  have h4 : (2 * P + 4294967296) / 8589934592 ≤ 136319216419 := by omega
  exact ⟨hold_in (by omega) (by omega), h3, h4⟩
theorem mI_le (a b : Int) (ha0 : 0 ≤ a) (hb1 : b ≤ 4294967296) : mI a b ≤ a := by
  have h := near_le (Int.mul_le_mul_of_nonneg_left hb1 ha0)
  rw [near_exact] at h
  exact h
theorem mI_le2 (a b : Int) (hb0 : 0 ≤ b) (ha1 : a ≤ 4294967296) : mI a b ≤ b := by
  have h := near_le (Int.mul_le_mul_of_nonneg_right ha1 hb0)
  rw [Int.mul_comm 4294967296 b, near_exact] at h
  exact h
theorem mI_mono (a a' b b' : Int) (ha0 : 0 ≤ a) (h : a ≤ a') (hb0 : 0 ≤ b) (hb : b ≤ b') : mI a b ≤ mI a' b' := near_le (Int.mul_le_mul h hb hb0 (by omega))
theorem mI_nonneg (a b : Int) (ha : 0 ≤ a) (hb : 0 ≤ b) : 0 ≤ mI a b := by
  have := Int.mul_nonneg ha hb
  unfold mI
  exact Int.ediv_nonneg (by omega) (by omega)
/-- What is left when x is past n halves: f; and its sum of powers. -/
def fdP (f : Int) : Int := 4294967296 - mI f 2977044472 + mI (mI f f) 1031764991 - mI (mI (mI f f) f) 206353000
def fadeI (x : Int) : Int := if x ≤ 0 then 4294967296 else if 94489280512 ≤ x then 0 else fdP (mI x 6196328019 % 4294967296) / 2 ^ (mI x 6196328019 / 4294967296).toNat
theorem fd_facts (f : Int) (h0 : 0 ≤ f) (h1 : f < 4294967296) : (0 ≤ mI f 2977044472 ∧ mI f 2977044472 ≤ 2977044472) ∧ (0 ≤ mI f f ∧ mI f f ≤ f) ∧ (0 ≤ mI (mI f f) 1031764991 ∧ mI (mI f f) 1031764991 ≤ mI f 2977044472) ∧ (0 ≤ mI (mI f f) f ∧ mI (mI f f) f ≤ f) ∧ (0 ≤ mI (mI (mI f f) f) 206353000 ∧ mI (mI (mI f f) f) 206353000 ≤ 206353000) ∧ (0 ≤ mI (mI (mI f f) f) f ∧ mI (mI (mI f f) f) f ≤ f) := by
  have a1 := mI_nonneg f f h0 h0
  have a2 := mI_le f f h0 (by omega)
  have a3 := mI_nonneg (mI f f) f a1 h0
  have a4 := mI_le (mI f f) f a1 (by omega)
  refine ⟨⟨mI_nonneg _ _ h0 (by omega), mI_le2 _ _ (by omega) (by omega)⟩, ⟨a1, a2⟩, ⟨mI_nonneg _ _ a1 (by omega), mI_mono _ _ _ _ a1 a2 (by omega) (by omega)⟩, ⟨a3, by omega⟩, ⟨mI_nonneg _ _ a3 (by omega), mI_le2 _ _ (by omega) (by omega)⟩, ⟨mI_nonneg _ _ a3 h0, ?_⟩⟩
  have := mI_le (mI (mI f f) f) f a3 (by omega)
  omega
theorem fdP_range (f : Int) (h0 : 0 ≤ f) (h1 : f < 4294967296) : 0 ≤ fdP f ∧ fdP f ≤ 4294967296 := by
  obtain ⟨a, b, c, d, e, g⟩ := fd_facts f h0 h1
  unfold fdP
  generalize mI f 2977044472 = m1 at *
  generalize mI (mI f f) 1031764991 = m2 at *
  generalize mI (mI (mI f f) f) 206353000 = m3 at *
  omega
theorem div_pow_range (p : Int) (n : Nat) (h0 : 0 ≤ p) (h1 : p ≤ 4294967296) : 0 ≤ p / 2 ^ n ∧ p / 2 ^ n ≤ 4294967296 := by
  have hp : (0 : Int) < 2 ^ n := Int.pow_pos (by omega)
  exact ⟨Int.ediv_nonneg h0 (Int.le_of_lt hp), Int.le_trans (Int.ediv_le_self _ h0) h1⟩
theorem fade_range (x : Int) : 0 ≤ fadeI x ∧ fadeI x ≤ 4294967296 := by
  unfold fadeI
  split
  · omega
  · split
    · omega
    · have h := fdP_range (mI x 6196328019 % 4294967296) (by omega) (by omega)
      exact div_pow_range _ _ h.1 h.2
/-- How many halves. -/
theorem fade_y (x : Int) (h0 : 0 < x) (h1 : x < 94489280512) : mdo x 6196328019 4294967296 2 = mI x 6196328019 ∧ 0 ≤ mI x 6196328019 ∧ mI x 6196328019 ≤ 136319216419 ∧ mdo (mI x 6196328019) 1 4294967296 1 = mI x 6196328019 / 4294967296 ∧ hold (mI x 6196328019 / 4294967296 * 4294967296) = mI x 6196328019 / 4294967296 * 4294967296 := by
  obtain ⟨a, b, c⟩ := mI_eq x 6196328019 (by omega) (by omega) (by omega) (by omega)
  refine ⟨a, b, c, ?_, ?_⟩
  · rw [mdo_down _ _ _ (by omega), Int.mul_one]
    generalize mI x 6196328019 = y at *
    exact hold_in (by omega) (by omega)
  · generalize mI x 6196328019 = y at *
    exact hold_in (by omega) (by omega)
end Go.Proofs.YtbdnbndmiekejaaDoor.B
