/-
  The second controller: plain laws. No program in sight.
-/
import Derived.Test.YtbdnbndmiekejaaDoorFd
import Derived.Test.YtbdnbndmiekejaaDoorCl
namespace Go.Proofs.YtbdnbndmiekejaaDoor.B
open Go.RowKit
set_option linter.unusedVariables false
set_option linter.unusedSimpArgs false
/-- The delay, warped; what is lost; the signal. D, L: the delay and the loss, held. -/
def warpI (D L : Int) : Int := if D < 50000 ∨ L = 0 then D else mdo (mdo 214748364800000 (fadeI (mdo ((D - 50000) * 4294967296) 4294967296 429496729600000 2)) 4294967296 2) 1 4294967296 1
def lostI (L : Int) : Int := mdo (100000 * L) L 9 1
def sigI (D L : Int) (ecn : Bool) : Int := if ecn = true then hold (min (hold (warpI D L + lostI L)) 1000000 + 20000) else min (hold (warpI D L + lostI L)) 1000000
theorem warp_fade (f : Int) (h0 : 0 ≤ f) (h1 : f ≤ 4294967296) : 0 ≤ mdo (mdo 214748364800000 f 4294967296 2) 1 4294967296 1 ∧ mdo (mdo 214748364800000 f 4294967296 2) 1 4294967296 1 ≤ 50000 := by
  have e : mdo 214748364800000 f 4294967296 2 = 50000 * f := by
    rw [mdo_near _ _ _ (by omega), show (2 : Int) * 4294967296 = 8589934592 from rfl]
    have e2 : (214748364800000 : Int) * f = (50000 * f) * 4294967296 := by omega
    rw [e2, near_exact]
    exact hold_in (by omega) (by omega)
  rw [e, mdo_down _ _ _ (by omega), Int.mul_one]
  rw [hold_in (by omega) (by omega)]
  omega
theorem warp_range (D L : Int) (h0 : 0 ≤ D) (h1 : D ≤ 1000000) : 0 ≤ warpI D L ∧ warpI D L ≤ D := by
  unfold warpI
  split
  · omega
  · rename_i h
    have hf := fade_range (mdo ((D - 50000) * 4294967296) 4294967296 429496729600000 2)
    have := warp_fade _ hf.1 hf.2
    omega
theorem warp_zero (D : Int) : warpI D 0 = D := by
  unfold warpI
  rw [if_pos (.inr rfl)]
theorem warp_same (D L M : Int) (hL : L ≠ 0) (hM : M ≠ 0) : warpI D L = warpI D M := by
  unfold warpI
  by_cases h : D < 50000
  · rw [if_pos (.inl h), if_pos (.inl h)]
  · rw [if_neg (by omega), if_neg (by omega)]
theorem lost_eq (L : Int) (h0 : 0 ≤ L) (h1 : L ≤ 256) : lostI L = 100000 * L * L / 9 ∧ 0 ≤ lostI L ∧ lostI L ≤ 728177778 := by
  have a := Int.mul_nonneg h0 h0
  have b := Int.mul_le_mul h1 h1 h0 (by omega)
  unfold lostI
  rw [mdo_down _ _ _ (by omega), Int.mul_assoc]
  generalize L * L = P at *
  rw [hold_in (by omega) (by omega)]
  omega
theorem lost_mono (L M : Int) (h0 : 0 ≤ L) (h : L ≤ M) (h1 : M ≤ 256) : lostI L ≤ lostI M := by
  rw [(lost_eq L h0 (by omega)).1, (lost_eq M (by omega) h1).1, Int.mul_assoc, Int.mul_assoc]
  have := Int.mul_le_mul h h h0 (by omega)
  exact Int.ediv_le_ediv (by omega) (by omega)
theorem sig_facts (D L : Int) (h0 : 0 ≤ D) (h1 : D ≤ 1000000) (l0 : 0 ≤ L) (l1 : L ≤ 256) : sigI D L false = min (warpI D L + lostI L) 1000000 ∧ sigI D L true = min (warpI D L + lostI L) 1000000 + 20000 := by
  have a := warp_range D L h0 h1
  have b := lost_eq L l0 l1
  unfold sigI
  simp only [Bool.false_eq_true, if_false, if_true]
  rw [hold_in (n := warpI D L + lostI L) (by omega) (by omega)]
  refine ⟨rfl, hold_in (by omega) (by omega)⟩
theorem sig_range (D L : Int) (e : Bool) (h0 : 0 ≤ D) (h1 : D ≤ 1000000) (l0 : 0 ≤ L) (l1 : L ≤ 256) : 0 ≤ sigI D L e ∧ sigI D L e ≤ 1020000 := by
  have a := warp_range D L h0 h1
  have b := lost_eq L l0 l1
  have c := sig_facts D L h0 h1 l0 l1
  cases e
  · rw [c.1]; omega
  · rw [c.2]; omega
/-- What the law of the warps asks. -/
theorem warps_law (D L M : Int) (h0 : 0 ≤ D) (h1 : D ≤ 1000000) (l0 : 0 ≤ L) (l1 : L ≤ 256) (m0 : 0 ≤ M) (m1 : M ≤ 256) :
    0 ≤ warpI D L ∧ warpI D L ≤ D ∧ (L = 0 → warpI D L = D) ∧ (0 < L → L ≤ M → sigI D L false ≤ sigI D M false) ∧ warpI D L ≤ sigI D L false ∧ sigI D L true = sigI D L false + 20000 ∧ sigI D L false ≤ 1000000 := by
  have a := warp_range D L h0 h1
  have b := lost_eq L l0 l1
  have c := sig_facts D L h0 h1 l0 l1
  have d := sig_facts D M h0 h1 m0 m1
  refine ⟨a.1, a.2, fun h => by rw [h]; exact warp_zero D, fun hl hm => ?_, ?_, ?_, ?_⟩
  · have e := lost_mono L M l0 hm m1
    have f := warp_same D L M (by omega) (by omega)
    rw [c.1, d.1, f]
    omega
  · rw [c.1]; omega
  · rw [c.2, c.1]
  · rw [c.1]; omega
/-- A ramp: what the rate goes to. -/
def gamI (rtt : Int) : Int := min 2147483648 (mdo 214748364800000 4294967296 ((rtt + 100000) * 4294967296) 2)
def rampI (rate got rtt : Int) : Int := min (max rate (mdo (mdo (min got 1073741824 * 4294967296) (4294967296 + gamI rtt) 4294967296 2) 1 4294967296 1)) ((3 * rate).tdiv 2 + 10000)
theorem gam_range (rtt : Int) (h0 : 1000 ≤ rtt) (h1 : rtt ≤ 1000000) : 0 ≤ gamI rtt ∧ gamI rtt ≤ 2147483648 := by
  unfold gamI
  have hc : 0 < (rtt + 100000) * 4294967296 := by omega
  rw [mdo_near _ _ _ hc]
  have h2 : 0 ≤ (2 * ((214748364800000 : Int) * 4294967296) + (rtt + 100000) * 4294967296) / (2 * ((rtt + 100000) * 4294967296)) := Int.ediv_nonneg (by omega) (by omega)
  generalize (2 * ((214748364800000 : Int) * 4294967296) + (rtt + 100000) * 4294967296) / (2 * ((rtt + 100000) * 4294967296)) = Z at *
  have h3 : 0 ≤ hold Z := by unfold hold; split; omega; split <;> omega
  omega
theorem ramp_ge (rate got rtt : Int) (h0 : 0 ≤ rate) (h1 : rate ≤ 17179869184) : rate ≤ rampI rate got rtt := by
  unfold rampI
  have : (3 * rate).tdiv 2 = 3 * rate / 2 := Int.tdiv_eq_ediv_of_nonneg (by omega)
  rw [this]
  omega
theorem ramp_is (rate g rtt : Int) (g0 : 0 ≤ g) (g1 : g < 1073741824) (h0 : 1000 ≤ rtt) (h1 : rtt ≤ 1000000) (r0 : 0 ≤ rate) : rampI rate g rtt = min (max rate (g + g * gamI rtt / 4294967296)) (3 * rate / 2 + 10000) := by
  have hg := gam_range rtt h0 h1
  unfold rampI
  rw [Int.tdiv_eq_ediv_of_nonneg (by omega), Int.min_eq_left (show g ≤ 1073741824 by omega)]
  generalize gamI rtt = G at *
  have p0 := Int.mul_nonneg g0 hg.1
  have p1 := Int.mul_le_mul (show g ≤ 1073741823 by omega) hg.2 hg.1 (by omega)
  have e : mdo (g * 4294967296) (4294967296 + G) 4294967296 2 = g * 4294967296 + g * G := by
    rw [mdo_near _ _ _ (by omega), show (2 : Int) * 4294967296 = 8589934592 from rfl]
    have e2 : g * 4294967296 * (4294967296 + G) = (g * 4294967296 + g * G) * 4294967296 := by
      rw [Int.mul_add, Int.add_mul, Int.mul_right_comm g 4294967296 G]
    rw [e2, near_exact]
    generalize g * G = P at *
    exact hold_in (by omega) (by omega)
  rw [e, mdo_down _ _ _ (by omega), Int.mul_one]
  generalize g * G = P at *
  rw [hold_in (by omega) (by omega)]
  have e3 : (g * 4294967296 + P) / 4294967296 = g + P / 4294967296 := by omega
  rw [e3]
theorem gam_low (g rtt : Int) (g0 : 0 ≤ g) (h0 : 1000 ≤ rtt) (h1 : rtt ≤ 1000000) : g * 40000 / (rtt + 100000) ≤ g * gamI rtt / 4294967296 := by
  have key : 40000 * 4294967296 ≤ gamI rtt * (rtt + 100000) := by
    unfold gamI
    have hc : 0 < (rtt + 100000) * 4294967296 := by omega
    rw [mdo_near _ _ _ hc]
    have e1 : 2 * ((214748364800000 : Int) * 4294967296) + (rtt + 100000) * 4294967296 = (2 * 214748364800000 + (rtt + 100000)) * 4294967296 := by omega
    have e2 : 2 * ((rtt + 100000) * 4294967296) = (2 * (rtt + 100000)) * 4294967296 := by omega
    rw [e1, e2, Int.mul_ediv_mul_of_pos_left _ _ (by omega)]
    have hd := Int.emod_add_mul_ediv (2 * 214748364800000 + (rtt + 100000)) (2 * (rtt + 100000))
    have hm := Int.emod_lt_of_pos (2 * 214748364800000 + (rtt + 100000)) (show 0 < 2 * (rtt + 100000) by omega)
    have hm0 := Int.emod_nonneg (2 * 214748364800000 + (rtt + 100000)) (show 2 * (rtt + 100000) ≠ 0 by omega)
    generalize (2 * 214748364800000 + (rtt + 100000)) % (2 * (rtt + 100000)) = R at *
    have hz0 : 0 ≤ (2 * 214748364800000 + (rtt + 100000)) / (2 * (rtt + 100000)) := Int.ediv_nonneg (by omega) (by omega)
    have hz1 : (2 * 214748364800000 + (rtt + 100000)) / (2 * (rtt + 100000)) ≤ 2 * 214748364800000 + (rtt + 100000) := Int.ediv_le_self _ (by omega)
    generalize (2 * 214748364800000 + (rtt + 100000)) / (2 * (rtt + 100000)) = Z at *
    rw [hold_in (by omega) (by omega)]
    by_cases hz : Z ≤ 2147483648
    · rw [Int.min_eq_right hz]
      have e3 : 2 * (rtt + 100000) * Z = 2 * (Z * (rtt + 100000)) := by rw [Int.mul_assoc, Int.mul_comm (rtt + 100000) Z]
      rw [e3] at hd
      generalize Z * (rtt + 100000) = P at *
      omega
    · rw [Int.min_eq_left (by omega)]
      omega
  generalize gamI rtt = G at *
  have hW : 0 < rtt + 100000 := by omega
  generalize rtt + 100000 = W at *
  refine (Int.le_ediv_iff_mul_le (by omega)).2 ?_
  have h2 : g * 40000 / W * W ≤ g * 40000 := Int.ediv_mul_le _ (by omega)
  have h3 : g * 40000 * 4294967296 ≤ g * G * W := by
    rw [Int.mul_assoc, Int.mul_assoc]
    exact Int.mul_le_mul_of_nonneg_left key g0
  generalize g * 40000 / W = Y at *
  have h4 : Y * W * 4294967296 ≤ g * G * W := Int.le_trans (by omega) h3
  have h5 : Y * 4294967296 * W ≤ g * G * W := by
    have : Y * W * 4294967296 = Y * 4294967296 * W := Int.mul_right_comm _ _ _
    omega
  exact Int.le_of_mul_le_mul_right h5 hW
theorem gam_high (g rtt : Int) (g0 : 0 ≤ g) (h0 : 1000 ≤ rtt) (h1 : rtt ≤ 1000000) : g * gamI rtt / 4294967296 ≤ g / 2 := by
  have hg := gam_range rtt h0 h1
  have := Int.mul_le_mul_of_nonneg_left hg.2 g0
  generalize g * gamI rtt = P at *
  omega
end Go.Proofs.YtbdnbndmiekejaaDoor.B
