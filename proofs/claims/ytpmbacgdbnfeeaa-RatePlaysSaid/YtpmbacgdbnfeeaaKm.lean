/-
  A number's rest, as the keeper of the laws has it. Walks over the program.
-/
import Derived.Test.YtpmbacgdbnfeeaaRw
namespace Go.Proofs.Ytpmbacgdbnfeeaa.B
open Go.RowKit Go.Proofs.YtpmbacgdbnfeeaaW.PrintWords Go.Proofs.YtpmbacgdbnfeeaaW.PrintLast Go.Proofs.YtpmbacgdbnfeeaaW.PrintMore
set_option linter.unusedVariables false
set_option linter.unusedSimpArgs false
theorem tmod_two (k n : Int) (hn : 1 ≤ n) : k.tmod n = k % n ∨ k.tmod n = k % n - n := by
  rw [Int.tmod_eq_emod]
  split
  · exact .inl (by omega)
  · exact .inr (by omega)
theorem kmod_eq (k n : Int) (hn : 1 ≤ n) : (k.tmod n + n) % n = k % n ∧ 0 ≤ k.tmod n + n ∧ k.tmod n < n ∧ -n < k.tmod n := by
  have h0 := Int.emod_nonneg k (show n ≠ 0 by omega)
  have h1 := Int.emod_lt_of_pos k (show 0 < n by omega)
  have h2 : -n < k.tmod n := by
    have := Int.lt_tmod_of_pos k (show 0 < n by omega)
    omega
  rcases tmod_two k n hn with h | h
  · rw [h] at h2 ⊢
    refine ⟨?_, by omega, by omega, by omega⟩
    rw [Int.add_emod_right, Int.emod_emod]
  · rw [h] at h2 ⊢
    refine ⟨?_, by omega, by omega, h2⟩
    rw [show k % n - n + n = k % n by omega, Int.emod_emod]
theorem kmod_any (k n : Int) (hk : I64 k) (hn : 1 ≤ n) (hn2 : n ≤ 1152921504606846976) (w : World) : Calls Try.prog 24 #[.int .i64 k, .int .i64 n] w fun e w' => e = .returned (.int .i64 (k % n)) ∧ w' = w := by
  have h0 := hk.1
  have h1 := hk.2
  obtain ⟨e, b0, b1, b2⟩ := kmod_eq k n hn
  have d1 : decide (n < 1) = false := decide_eq_false (by omega)
  have d2 : (n == 0) = false := beq_eq_false_iff_ne.2 (by omega)
  have HE := Aside0.mk e
  clear e hk
  go_enter Try.func24, Try.ntmps24
  go_wp2_with fail
  all_goals go_ret
  all_goals exact ⟨ret_int HE.out, rfl⟩
theorem kmod64_any (k n : Int) (hk : I64 k) (hn : 1 ≤ n) (hn2 : n ≤ 1152921504606846976) (w : World) : Calls Try.prog 23 #[.int .i64 k, .int .i64 n] w fun e w' => e = .returned (.int .i64 (k % n)) ∧ w' = w := by
  have h0 := hk.1
  have h1 := hk.2
  obtain ⟨e, b0, b1, b2⟩ := kmod_eq k n hn
  have d1 : decide (n < 1) = false := decide_eq_false (by omega)
  have d2 : (n == 0) = false := beq_eq_false_iff_ne.2 (by omega)
  have HE := Aside0.mk e
  clear e hk
  go_enter Try.func23, Try.ntmps23
  go_wp2_with fail
  all_goals go_ret
  all_goals exact ⟨ret_int HE.out, rfl⟩
end Go.Proofs.Ytpmbacgdbnfeeaa.B
