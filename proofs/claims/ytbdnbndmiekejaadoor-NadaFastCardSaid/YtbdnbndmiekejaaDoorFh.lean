/-
  Numbers with 32 bits behind the point: mixed, halved. Walks over the program.
-/
import Derived.Test.YtbdnbndmiekejaaDoorFp
import Derived.Test.YtbdnbndmiekejaaDoorRw
namespace Go.Proofs.YtbdnbndmiekejaaDoor.B
open Go.RowKit Go.Proofs.YtbdnbndmiekejaaDoorW.PrintWords Go.Proofs.YtbdnbndmiekejaaDoorW.PrintLast Go.Proofs.YtbdnbndmiekejaaDoorW.PrintMore
set_option linter.unusedVariables false
set_option linter.unusedSimpArgs false
def mixI (x y w : Int) : Int := hold (x + mdo (hold (y - x)) w 4294967296 2)
theorem half_any (x n : Int) (hx : I64 x) (hn : I64 n) (wd : World) : Calls Tryd.prog 26 #[.int .i64 x, .int .i64 n] wd fun e w' => e = .returned (.int .i64 (if n < 0 then x else if 62 < n then x / 2 ^ 63 else x / 2 ^ n.toNat)) ∧ w' = wd := by
  by_cases h1 : n < 0
  · rw [if_pos h1]
    go_enter Tryd.func26, Tryd.ntmps26
    go_wp2_with fail
    go_ret
    exact ⟨rfl, rfl⟩
  · rw [if_neg h1]
    by_cases h2 : 62 < n
    · rw [if_pos h2]
      go_enter Tryd.func26, Tryd.ntmps26
      go_wp2_with fail
      go_ret
      exact ⟨rfl, rfl⟩
    · rw [if_neg h2]
      go_enter Tryd.func26, Tryd.ntmps26
      go_wp2_with fail
      go_ret
      exact ⟨rfl, rfl⟩
def halfI (x n : Int) : Int := if n < 0 then x else if 62 < n then x / 2 ^ 63 else x / 2 ^ n.toNat
theorem half_run (x n V : Int) (hx : I64 x) (hn : I64 n) (hV : halfI x n = V) (wd : World) : Calls Tryd.prog 26 #[.int .i64 x, .int .i64 n] wd fun e w' => e = .returned (.int .i64 V) ∧ w' = wd := by
  subst hV
  exact half_any x n hx hn wd
theorem fade_low (x : Int) (hx : x ≤ 0) (w : World) : Calls Tryd.prog 17 #[.int .i64 x] w fun e w' => e = .returned (.int .i64 4294967296) ∧ w' = w := by
  go_enter Tryd.func17, Tryd.ntmps17
  go_wp2_with fail
  go_ret
  exact ⟨rfl, rfl⟩
theorem tmod_lt (x : Int) : -2305843009213693952 < x.tmod 2305843009213693952 ∧ x.tmod 2305843009213693952 < 2305843009213693952 := by
  by_cases h : 0 ≤ x
  · rw [Int.tmod_eq_emod_of_nonneg h]
    omega
  · have e : x.tmod 2305843009213693952 = -((-x).tmod 2305843009213693952) := by rw [Int.neg_tmod, Int.neg_neg]
    rw [e, Int.tmod_eq_emod_of_nonneg (by omega)]
    omega
def I32 (a : Int) : Prop := -2147483648 ≤ a ∧ a ≤ 2147483647
theorem wf_i32 {a : Int} (h : (Lit.int .i32 a).wf = true) : I32 a := by
  simp only [Lit.wf, Bool.and_eq_true, decide_eq_true_eq] at h
  exact ⟨Int.le_trans (show (-2147483648 : Int) ≤ IntKind.i32.min by decide) h.1, Int.le_trans h.2 (show IntKind.i32.max ≤ (2147483647 : Int) by decide)⟩
theorem halfI_at (x : Int) (a : Nat) (h : a ≤ 62) : halfI x (a : Int) = x / 2 ^ a := by
  unfold halfI
  rw [if_neg (by omega), if_neg (by omega), Int.toNat_natCast]
theorem half_i64 (x : Int) (a : Nat) (h : I64 x) : I64 (x / 2 ^ a) := by
  have hp : (1 : Int) ≤ 2 ^ a := Int.pow_pos (by omega)
  unfold I64 at *
  generalize (2 : Int) ^ a = p at *
  constructor
  · refine (Int.le_ediv_iff_mul_le (by omega)).2 ?_
    have := Int.mul_le_mul_of_nonpos_left (show (-9223372036854775808 : Int) ≤ 0 by omega) hp
    omega
  · refine Int.le_trans (Int.ediv_le_ediv (by omega) h.2) ?_
    exact Int.ediv_le_self _ (by omega)
end Go.Proofs.YtbdnbndmiekejaaDoor.B
