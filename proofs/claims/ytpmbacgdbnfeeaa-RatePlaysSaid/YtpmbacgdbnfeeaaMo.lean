/-
  What the program's muldiv.Do computes: a product, divided, rounded and held, as one function on whole numbers.
-/
import Derived.Test.YtpmbacgdbnfeeaaMq
namespace Go.Proofs.Ytpmbacgdbnfeeaa.B
open Go.RowKit Go.Proofs.YtpmbacgdbnfeeaaW.PrintWords Go.Proofs.YtpmbacgdbnfeeaaW.PrintLast Go.Proofs.YtpmbacgdbnfeeaaW.PrintMore
set_option linter.unusedVariables false
set_option linter.unusedSimpArgs false
/-- Is the quotient below 0? -/
def signB (a b c : Int) : Bool := !(!decide (a < 0) == decide (b < 0)) == decide (c < 0)
/-- The quotient's size, rounded. -/
def quoN (a b c how : Int) : Nat := a.natAbs * b.natAbs / c.natAbs + (upB (a.natAbs * b.natAbs % c.natAbs) c.natAbs (signB a b c) how).toNat
/-- A product, divided, rounded and held. -/
def mdo (a b c how : Int) : Int := if c = 0 ∨ how < 1 ∨ 3 < how then 0 else hold (if signB a b c = true then -(quoN a b c how : Int) else quoN a b c how)
theorem mdo_range (a b c how : Int) : I64 (mdo a b c how) := by
  unfold mdo I64
  split
  · omega
  · exact hold_range _
theorem natAbs_le {a : Int} (h : I64 a) : a.natAbs ≤ 9223372036854775808 := by unfold I64 at h; omega
set_option maxHeartbeats 1000000 in
theorem quotient_none (a b c how : Int) (w : World) (h : c = 0 ∨ how < 1 ∨ 3 < how) : Calls Try.prog 35 #[.int .i64 a, .int .i64 b, .int .i64 c, .int .i64 how] w fun e w' => e = .returned (.tuple #[.int .i64 0, .bool false]) ∧ w' = w := by
  by_cases hc : c = 0
  · have n0 : (c == 0) = true := by simp [hc]
    clear hc h
    go_enter Try.func35, Try.ntmps35
    go_wp2_with fail
    go_ret2
    exact ⟨rfl, rfl⟩
  · have n0 : (c == 0) = false := by simp [hc]
    by_cases h1 : how < 1
    · have n1 : decide (how < 1) = true := by simp [h1]
      clear hc h
      go_enter Try.func35, Try.ntmps35
      go_wp2_with fail
      go_ret2
      exact ⟨rfl, rfl⟩
    · have n1 : decide (how < 1) = false := by simp; omega
      have n2 : decide (3 < how) = true := by simp; omega
      clear hc h h1
      go_enter Try.func35, Try.ntmps35
      go_wp2_with fail
      go_ret2
      exact ⟨rfl, rfl⟩
def QuoOk (V : Int) (w : World) (e : Ending) (w' : World) : Prop := (∃ ok : Bool, e = .returned (.tuple #[.int .i64 V, .bool ok])) ∧ Below w.heap.size w w'
set_option maxHeartbeats 1000000 in
theorem quotient_any (a b c how : Int) (ha : I64 a) (hb : I64 b) (hc : I64 c) (w : World) : Calls Try.prog 35 #[.int .i64 a, .int .i64 b, .int .i64 c, .int .i64 how] w (QuoOk (mdo a b c how) w) := by
  by_cases h : c = 0 ∨ how < 1 ∨ 3 < how
  · refine (quotient_none a b c how w h).mono ?_
    rintro e w' ⟨rfl, rfl⟩
    refine ⟨⟨false, ?_⟩, Below.refl _ _⟩
    unfold mdo
    rw [if_pos h]
  · have hC0 : 0 < c.natAbs := by omega
    have bA := natAbs_le ha
    have bB := natAbs_le hb
    have bC := natAbs_le hc
    have hn : a.natAbs * b.natAbs ≤ 85070591730234615865843651857942052864 := Nat.le_trans (Nat.mul_le_mul bA bB) (by decide)
    obtain ⟨n, en⟩ : ∃ n, n = a.natAbs * b.natAbs := ⟨_, rfl⟩
    obtain ⟨C, eC⟩ : ∃ C, C = c.natAbs := ⟨_, rfl⟩
    have hM := fun w => mul64_any a.natAbs b.natAbs (by omega) (by omega) w
    rw [← en] at hM hn
    have hD := fun w => divided_any (n / 18446744073709551616) (n % 18446744073709551616) C (by omega) (by omega) (by omega) (by omega) w
    obtain ⟨s1, s2⟩ := two_digits_aux (y := C) (D := n / 18446744073709551616) (Z := 18446744073709551616) (u0 := n % 18446744073709551616) (q1 := n / 18446744073709551616 / C) (r1 := n / 18446744073709551616 % C) (by omega) (Nat.div_add_mod _ _) rfl
    have eD : n / 18446744073709551616 * 18446744073709551616 + n % 18446744073709551616 = n := Nat.div_add_mod' n _
    rw [eD] at s1 s2
    obtain ⟨q0, e0⟩ : ∃ q0, q0 = n / 18446744073709551616 / C := ⟨_, rfl⟩
    obtain ⟨q1, e1⟩ : ∃ q0, q0 = (n / 18446744073709551616 % C * 18446744073709551616 + n % 18446744073709551616) / C := ⟨_, rfl⟩
    rw [← e0, ← e1] at hD s1
    rw [s2] at hD
    have hq0 : q0 ≤ 4611686018427387904 := by rw [e0]; exact Nat.le_trans (Nat.div_le_self _ _) (by omega)
    have hq1 : q1 < 18446744073709551616 := by
      rw [e1, Nat.div_lt_iff_lt_mul (by omega)]
      have := Nat.mod_lt (n / 18446744073709551616) (show 0 < C by omega)
      omega
    have hr : n % C < C := Nat.mod_lt _ (by omega)
    have hU := fun w => up_any (n % C) C (signB a b c) how (by omega) (by omega) w
    obtain ⟨U, eU⟩ : ∃ U, U = upB (n % C) C (signB a b c) how := ⟨_, rfl⟩
    rw [← eU] at hU
    have hq : quoN a b c how = q0 * 18446744073709551616 + q1 + U.toNat := by
      unfold quoN
      rw [← en, ← eC, ← eU, s1]
    have hz : mdo a b c how = hold (if signB a b c = true then -((q0 * 18446744073709551616 + q1 + U.toNat : Nat) : Int) else ((q0 * 18446744073709551616 + q1 + U.toNat : Nat) : Int)) := by
      unfold mdo
      rw [if_neg h, hq]
    rw [hz]
    have n0 : (c == 0) = false := by simp; omega
    have n1 : decide (how < 1) = false := by simp; omega
    have n2 : decide (3 < how) = false := by simp; omega
    have fin : ∀ (Z0 Z1 : Int), Z0 * 18446744073709551616 + Z1 = ((q0 * 18446744073709551616 + q1 + U.toNat : Nat) : Int) → ∀ e w', QuoIs (signB a b c) Z0 Z1 w e w' → QuoOk (hold (if signB a b c = true then -((q0 * 18446744073709551616 + q1 + U.toNat : Nat) : Int) else ((q0 * 18446744073709551616 + q1 + U.toNat : Nat) : Int))) w e w' := by
      intro Z0 Z1 hZ e w' hq
      unfold QuoIs at hq
      rw [hZ] at hq
      exact hq
    have S1 := fun w => size_any a ha w
    have S2 := fun w => size_any b hb w
    have S3 := fun w => size_any c hc w
    rw [← eC] at S3
    cases U
    · exact (quotient_walk a b c how a.natAbs b.natAbs C (n / 18446744073709551616 : Nat) (n % 18446744073709551616 : Nat) q0 q1 (n % C : Nat) false (signB a b c) w q0 q1 0 n0 n1 n2 rfl
        ⟨⟨by omega, by omega⟩⟩ ⟨fun _ => ⟨rfl, rfl⟩⟩ ⟨fun h => by cases h⟩ ⟨fun h => by cases h⟩ ⟨hU⟩ ⟨S1⟩ ⟨S2⟩ ⟨S3⟩ ⟨hM⟩ ⟨hD⟩).mono (fin _ _ (by simp))
    · exact (quotient_walk a b c how a.natAbs b.natAbs C (n / 18446744073709551616 : Nat) (n % 18446744073709551616 : Nat) q0 q1 (n % C : Nat) true (signB a b c) w ((q0 : Int) + ((q1 : Int) + 1) / 18446744073709551616) (((q1 : Int) + 1) % 18446744073709551616) (((q1 : Int) + 1) / 18446744073709551616) n0 n1 n2 rfl
        ⟨⟨by omega, by omega⟩⟩ ⟨fun h => by cases h⟩ ⟨fun _ => by rw [IntKind.wrap_u64]; omega⟩ ⟨fun _ w => add64_run (by omega) (by omega) (by omega) (by omega) (by omega) (by omega) w⟩ ⟨hU⟩ ⟨S1⟩ ⟨S2⟩ ⟨S3⟩ ⟨hM⟩ ⟨hD⟩).mono (fin _ _ (by simp; omega))
theorem do_any (a b c how : Int) (ha : I64 a) (hb : I64 b) (hc : I64 c) (w : World) : Calls Try.prog 30 #[.int .i64 a, .int .i64 b, .int .i64 c, .int .i64 how] w fun e w' => e = .returned (.int .i64 (mdo a b c how)) ∧ Below w.heap.size w w' := by
  have H := Aside0.mk (fun w => quotient_any a b c how ha hb hc w)
  clear ha hb hc
  generalize mdo a b c how = V at *
  go_enter Try.func30, Try.ntmps30
  go_wp2_with fail
  refine (H.out _).mono ?_
  rintro e w1 ⟨⟨ok, rfl⟩, hB⟩
  go_wp2
  go_ret
  exact ⟨rfl, hB⟩
end Go.Proofs.Ytpmbacgdbnfeeaa.B
