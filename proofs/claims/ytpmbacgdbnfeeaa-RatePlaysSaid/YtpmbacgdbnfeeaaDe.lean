/-
  What the reference's Do computes: what the program's computes.
-/
import Derived.Test.YtpmbacgdbnfeeaaDd
namespace Go.Proofs.Ytpmbacgdbnfeeaa.B
open Go.RowKit Go.Proofs.YtpmbacgdbnfeeaaW.PrintWords Go.Proofs.YtpmbacgdbnfeeaaW.PrintLast Go.Proofs.YtpmbacgdbnfeeaaW.PrintMore
set_option linter.unusedVariables false
set_option linter.unusedSimpArgs false
theorem up_cases (L C : Nat) (below : Bool) (how : Int) (h0 : 1 ≤ how) (h1 : how ≤ 3) (hL : L < C) (hC : C ≤ 9223372036854775808) :
    (((L : Int) == 0) = true ∧ upB L C below how = false) ∨ (((L : Int) == 0) = false ∧ (how == 1) = true ∧ upB L C below how = below) ∨ (((L : Int) == 0) = false ∧ (how == 1) = false ∧ (how == 3) = true ∧ upB L C below how = !below) ∨ (((L : Int) == 0) = false ∧ (how == 1) = false ∧ (how == 3) = false ∧ below = true ∧ decide (IntKind.u64.wrap ((C : Int) - (L : Int)) < (L : Int)) = upB L C below how) ∨ (((L : Int) == 0) = false ∧ (how == 1) = false ∧ (how == 3) = false ∧ below = false ∧ decide (IntKind.u64.wrap ((C : Int) - (L : Int)) ≤ (L : Int)) = upB L C below how) := by
  have hw : IntKind.u64.wrap ((C : Int) - (L : Int)) = ((C - L : Nat) : Int) := by
    rw [IntKind.wrap_u64]
    omega
  rw [hw]
  by_cases hz : L = 0
  · left
    subst hz
    refine ⟨rfl, ?_⟩
    unfold upB
    split
    · simp
    · split
      · simp
      · split <;> simp
  · have hp : 0 < L := by omega
    have hz2 : ((L : Int) == 0) = false := beq_eq_false_iff_ne.2 (by omega)
    right
    by_cases e1 : how = 1
    · left
      subst e1
      refine ⟨hz2, rfl, ?_⟩
      simp [upB, hp]
    · right
      have e1' : (how == 1) = false := beq_eq_false_iff_ne.2 e1
      by_cases e3 : how = 3
      · left
        subst e3
        refine ⟨hz2, rfl, rfl, ?_⟩
        simp [upB, hp]
      · right
        have e3' : (how == 3) = false := beq_eq_false_iff_ne.2 e3
        cases below with
        | true =>
          left
          refine ⟨hz2, e1', e3', rfl, ?_⟩
          unfold upB
          rw [if_neg e1, if_neg e3, if_pos rfl]
          exact decide_eq_decide.2 (by omega)
        | false =>
          right
          refine ⟨hz2, e1', e3', rfl, ?_⟩
          unfold upB
          rw [if_neg e1, if_neg e3, if_neg (by decide), decide_eq_true hp, Bool.true_and]
          exact decide_eq_decide.2 (by omega)
theorem did_any (a b c how : Int) (ha : I64 a) (hb : I64 b) (hc : I64 c) (hc0 : c ≠ 0) (h0 : 1 ≤ how) (h1 : how ≤ 3) (w : World) : Calls Try.prog 36 #[.int .i64 a, .int .i64 b, .int .i64 c, .int .i64 how] w (DidIs (signB a b c) (quoN a b c how : Int) w) := by
  have na := natAbs_le ha
  have nb := natAbs_le hb
  have nc := natAbs_le hc
  have nc0 : 0 < c.natAbs := by omega
  have hN : a.natAbs * b.natAbs ≤ 9223372036854775808 * 9223372036854775808 := Nat.mul_le_mul na nb
  have ht := fun w => times_walk a.natAbs b.natAbs (by omega) (by omega) w
  have e : a.natAbs * b.natAbs / 18446744073709551616 * 18446744073709551616 + a.natAbs * b.natAbs % 18446744073709551616 = a.natAbs * b.natAbs := by omega
  have hp := fun w => part_walk (a.natAbs * b.natAbs / 18446744073709551616) (a.natAbs * b.natAbs % 18446744073709551616) c.natAbs (by omega) (by omega) nc0 nc w
  rw [e] at hp
  have hL := Nat.mod_lt (a.natAbs * b.natAbs) nc0
  refine did_walk a b c how _ _ _ _ _ _ _ _ _ (signB a b c) (upB (a.natAbs * b.natAbs % c.natAbs) c.natAbs (signB a b c) how) w (beq_eq_false_iff_ne.2 hc0) (decide_eq_false (by omega)) (decide_eq_false (by omega)) rfl ?_ ?_ ⟨?_, ?_⟩ (up_cases _ _ _ how h0 h1 hL nc) ⟨fun w => rsize_any a ha w⟩ ⟨fun w => rsize_any b hb w⟩ ⟨fun w => rsize_any c hc w⟩ ⟨ht⟩ ⟨hp⟩
  · omega
  · omega
  · intro ho
    have := of_decide_eq_true ho
    unfold quoN
    omega
  · intro ho
    have := of_decide_eq_false ho
    unfold quoN
    generalize a.natAbs * b.natAbs / c.natAbs = Q at *
    generalize upB (a.natAbs * b.natAbs % c.natAbs) c.natAbs (signB a b c) how = U
    cases U
    · simp
      omega
    · simp
      omega
set_option maxHeartbeats 1000000 in
theorem did_none (a b c how : Int) (h : c = 0 ∨ how < 1 ∨ 3 < how) (w : World) : Calls Try.prog 36 #[.int .i64 a, .int .i64 b, .int .i64 c, .int .i64 how] w fun e w' => e = .returned (.agg #[.int .i64 0, .bool false]) ∧ Below w.heap.size w w' := by
  by_cases hc : c = 0
  · have k1 : (c == 0) = true := by simp [hc]
    go_enter Try.func36, Try.ntmps36
    go_wp2_with fail
    refine bodyPost_ret (v := .agg #[.int .i64 0, .bool false]) (by simp [results, Try.results36, go_sem]) rfl ⟨rfl, ?_⟩
    repeat (first | exact Below.refl _ _ | refine Below.setCell ?_ (by simp) _ | refine Below.alloc ?_ (by simp) _)
  · have k1 : (c == 0) = false := beq_eq_false_iff_ne.2 hc
    by_cases h1 : how < 1
    · have k2 : decide (how < 1) = true := decide_eq_true h1
      go_enter Try.func36, Try.ntmps36
      go_wp2_with fail
      refine bodyPost_ret (v := .agg #[.int .i64 0, .bool false]) (by simp [results, Try.results36, go_sem]) rfl ⟨rfl, ?_⟩
      repeat (first | exact Below.refl _ _ | refine Below.setCell ?_ (by simp) _ | refine Below.alloc ?_ (by simp) _)
    · have k2 : decide (how < 1) = false := decide_eq_false h1
      have k3 : decide (3 < how) = true := decide_eq_true (by omega)
      go_enter Try.func36, Try.ntmps36
      go_wp2_with fail
      refine bodyPost_ret (v := .agg #[.int .i64 0, .bool false]) (by simp [results, Try.results36, go_sem]) rfl ⟨rfl, ?_⟩
      repeat (first | exact Below.refl _ _ | refine Below.setCell ?_ (by simp) _ | refine Below.alloc ?_ (by simp) _)
theorem did_mdo (a b c how : Int) (ha : I64 a) (hb : I64 b) (hc : I64 c) (w : World) : Calls Try.prog 36 #[.int .i64 a, .int .i64 b, .int .i64 c, .int .i64 how] w fun e w' => (∃ ok : Bool, e = .returned (.agg #[.int .i64 (mdo a b c how), .bool ok])) ∧ Below w.heap.size w w' := by
  by_cases h : c = 0 ∨ how < 1 ∨ 3 < how
  · unfold mdo
    rw [if_pos h]
    refine (did_none a b c how h w).mono ?_
    rintro e w' ⟨he, hB⟩
    exact ⟨⟨false, he⟩, hB⟩
  · unfold mdo
    rw [if_neg h]
    exact did_any a b c how ha hb hc (by omega) (by omega) (by omega) w
theorem rdo_any (a b c how : Int) (ha : I64 a) (hb : I64 b) (hc : I64 c) (_ : I64 how) (w : World) : Calls Try.prog 31 #[.int .i64 a, .int .i64 b, .int .i64 c, .int .i64 how] w fun e w' => e = .returned (.int .i64 (mdo a b c how)) ∧ Below w.heap.size w w' := by
  have C := Aside0.mk (fun w => did_mdo a b c how ha hb hc w)
  clear ha hb hc
  generalize mdo a b c how = V at *
  have hfd : ∀ (ok : Bool) (w : World), (Instr.field 69 (.agg #[.int .i64 V, .bool ok]) 0).run Try.prog w = .ok (.int .i64 V) w := fun _ _ => by kernel_rfl
  go_enter Try.func31, Try.ntmps31
  go_wp2_with fail
  refine (C.out _).mono ?_
  rintro e w1 ⟨⟨ok, rfl⟩, hB⟩
  go_wp2_with fail
  go_ret
  exact ⟨rfl, hB⟩
end Go.Proofs.Ytpmbacgdbnfeeaa.B
