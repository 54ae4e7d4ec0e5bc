/-
  Products that are divided: what the program's muldiv computes. Walks over it.
-/
import Derived.Test.YtpmbacgdbnfeeaaMw
namespace Go.Proofs.Ytpmbacgdbnfeeaa.B
open Go.RowKit Go.Proofs.YtpmbacgdbnfeeaaW.PrintWords Go.Proofs.YtpmbacgdbnfeeaaW.PrintLast Go.Proofs.YtpmbacgdbnfeeaaW.PrintMore
set_option linter.unusedVariables false
set_option linter.unusedSimpArgs false
theorem div64_any (hi lo y : Nat) (h2 : hi < y) (hy : y < 18446744073709551616) (hlo : lo < 18446744073709551616) (w : World) :
    Calls Try.prog 46 #[.int .u64 hi, .int .u64 lo, .int .u64 y] w fun e w' => e = .returned (.tuple #[.int .u64 ((hi * 18446744073709551616 + lo) / y : Nat), .int .u64 ((hi * 18446744073709551616 + lo) % y : Nat)]) ∧ Drawn0 w w' := by
  rcases Nat.eq_zero_or_pos hi with h | h
  · subst h
    rw [show 0 * 18446744073709551616 + lo = lo by omega]
    exact div64_zero lo y h2 hlo w
  · exact (div64_pos hi lo y h h2 hy hlo w).mono fun e w' ⟨h1, h2⟩ => ⟨h1, by rw [h2]; exact Drawn0.refl _⟩
theorem size_any (a : Int) (ha : I64 a) (w : World) : Calls Try.prog 40 #[.int .i64 a] w fun e w' => e = .returned (.int .u64 (a.natAbs : Int)) ∧ w' = w := by
  unfold I64 at ha
  by_cases h : a < 0
  · have hn : decide (a < 0) = true := by simp [h]
    have e : IntKind.u64.wrap (- IntKind.u64.wrap a) = (a.natAbs : Int) := by rw [IntKind.wrap_u64, IntKind.wrap_u64]; omega
    have E := Aside0.mk e
    clear e
    go_enter Try.func40, Try.ntmps40
    go_wp2
    go_ret
    exact ⟨ret_int E.out, rfl⟩
  · have hn : decide (a < 0) = false := by simp; omega
    have e : IntKind.u64.wrap a = (a.natAbs : Int) := by rw [IntKind.wrap_u64]; omega
    have E := Aside0.mk e
    clear e
    go_enter Try.func40, Try.ntmps40
    go_wp2
    go_ret
    exact ⟨ret_int (by have := E.out; first | exact this | (rw [IntKind.wrap_u64] at this; omega)), rfl⟩
/-- Does the quotient go up by one? -/
def upB (left c : Nat) (below : Bool) (how : Int) : Bool :=
  if how = 1 then below && decide (0 < left) else if how = 3 then !below && decide (0 < left) else if below = true then decide (c - left < left) else decide (0 < left) && decide (c - left ≤ left)
def UpIs (L C : Int) (below : Bool) (how : Int) (w : World) (e : Ending) (w' : World) : Prop := (∃ left c : Nat, L = left ∧ C = c ∧ e = .returned (.bool (upB left c below how))) ∧ w' = w
theorem ret_bool {a b : Bool} (h : a = b) : Ending.returned (.bool a) = .returned (.bool b) := by rw [h]
set_option maxHeartbeats 1000000 in
theorem up_any (left c : Nat) (below : Bool) (how : Int) (h : left ≤ c) (hc : c < 18446744073709551616) (w : World) :
    Calls Try.prog 42 #[.int .u64 left, .int .u64 c, .bool below, .int .i64 how] w fun e w' => e = .returned (.bool (upB left c below how)) ∧ w' = w := by
  obtain ⟨L, hL⟩ : ∃ L : Int, L = (left : Int) := ⟨_, rfl⟩
  obtain ⟨C, hC⟩ : ∃ L : Int, L = (c : Int) := ⟨_, rfl⟩
  obtain ⟨D, hD⟩ : ∃ L : Int, L = ((c - left : Nat) : Int) := ⟨_, rfl⟩
  have e : IntKind.u64.wrap (C - L) = D := by rw [IntKind.wrap_u64]; omega
  have e0 : decide (0 < left) = decide (0 < L) := by rw [decide_eq_decide]; omega
  have e1 : decide (c - left < left) = decide (D < L) := by rw [decide_eq_decide]; omega
  have e2 : decide (c - left ≤ left) = decide (D ≤ L) := by rw [decide_eq_decide]; omega
  obtain ⟨R, hR⟩ : ∃ R, R = upB left c below how := ⟨_, rfl⟩
  have hR2 := hR
  rw [← hL, ← hC, ← hR]
  unfold upB at hR2
  rw [e0, e1, e2] at hR2
  have HR := Aside0.mk hR2
  clear hL hC hD hR hR2 e0 e1 e2
  by_cases h1 : how = 1
  · have d1 : (how == 1) = true := by simp [h1]
    rw [if_pos h1] at HR
    clear h1
    cases below
    all_goals
      go_enter Try.func42, Try.ntmps42
      go_wp2
      all_goals go_ret
      all_goals exact ⟨ret_bool (by rw [HR.out]; simp), rfl⟩
  · have d1 : (how == 1) = false := by simp [h1]
    rw [if_neg h1] at HR
    clear h1
    by_cases h3 : how = 3
    · have d3 : (how == 3) = true := by simp [h3]
      rw [if_pos h3] at HR
      clear h3
      cases below
      all_goals
        go_enter Try.func42, Try.ntmps42
        go_wp2
        all_goals go_ret
        all_goals exact ⟨ret_bool (by rw [HR.out]; simp), rfl⟩
    · have d3 : (how == 3) = false := by simp [h3]
      rw [if_neg h3] at HR
      clear h3
      cases below
      all_goals
        go_enter Try.func42, Try.ntmps42
        go_wp2
        all_goals go_ret
        all_goals refine ⟨ret_bool ?_, rfl⟩
        all_goals first | (rw [HR.out]; simp; done) | (rw [HR.out]; simp_all; done) | (rw [HR.out]; simp; omega)
def DivJ (w : World) (N0 N1 C Q0 R0 : Int) (a' : Act) (w' : World) : Prop :=
  ∃ (nd : Nat) (q9 q10 q11 q12 q13 q14 q15 q16 q17 q18 q19 q20 q21 q22 q23 q24 q25 : Value), a' = { tmps := #[.agg #[.int .u64 N0, .int .u64 N1], .int .u64 C, .pointer (some ⟨w.heap.size, 0, none⟩), undef, .pointer (some ⟨w.heap.size + 1, 0, none⟩), .int .u64 0, .pointer (some ⟨w.heap.size + 1 + 1, 0, none⟩), .int .u64 R0, .int .i64 1, q9, q10, q11, q12, q13, q14, q15, q16, q17, q18, q19, q20, q21, q22, q23, q24, q25], defers := [] } ∧
    w' = ((((w.alloc (.cells #[.int .u64 N0, .int .u64 N1] 76)).alloc (.cells #[.int .u64 0, .int .u64 0] 76)).alloc (.cells #[.int .u64 0, .int .u64 0] 76)).drewN nd).setCell ⟨w.heap.size + 1 + 1, 0, none⟩ (.int .u64 Q0)
set_option maxHeartbeats 1000000 in
theorem divided_walk (N0 N1 C Q0 R0 Q1 R1 : Int) (w : World)
    (hd0 : Aside0 (∀ w, Calls Try.prog 46 #[.int .u64 0, .int .u64 N0, .int .u64 C] w fun e w' => e = .returned (.tuple #[.int .u64 Q0, .int .u64 R0]) ∧ Drawn0 w w'))
    (hd1 : Aside0 (∀ w, Calls Try.prog 46 #[.int .u64 R0, .int .u64 N1, .int .u64 C] w fun e w' => e = .returned (.tuple #[.int .u64 Q1, .int .u64 R1]) ∧ Drawn0 w w')) :
    Calls Try.prog 41 #[.agg #[.int .u64 N0, .int .u64 N1], .int .u64 C] w fun e w' => e = .returned (.tuple #[.agg #[.int .u64 Q0, .int .u64 Q1], .int .u64 R1]) ∧ Below w.heap.size w w' := by
  go_enter Try.func41, Try.ntmps41
  go_wp2
  refine wp_scope_jumps 0 (DivJ w N0 N1 C Q0 R0) (fun a' _ => (2 - intOf (a'.tmps.getD 8 undef)).toNat) rfl ?_ ?_
  · go_wp2
    go_step3
    go_wp2_with fail
    refine (hd0.out _).mono ?_
    rintro e w1 ⟨rfl, ⟨nd, rfl⟩⟩
    go_wp2_with fail
    go_step3
    exact ⟨rfl, nd, _, _, _, _, _, _, _, _, _, _, _, _, _, _, _, _, _, rfl, rfl⟩
  · rintro a' w' ⟨nd, q9, q10, q11, q12, q13, q14, q15, q16, q17, q18, q19, q20, q21, q22, q23, q24, q25, rfl, rfl⟩
    go_wp2_with fail
    refine (hd1.out _).mono ?_
    rintro e w1 ⟨rfl, ⟨nd1, rfl⟩⟩
    go_wp2_with fail
    simp only [Exit.jump]
    refine bodyPost_ret (v := .tuple #[.agg #[.int .u64 Q0, .int .u64 Q1], .int .u64 R1]) (by simp [results, Try.results41, go_sem]) rfl ⟨rfl, ?_⟩
    exact ((((((((((Below.refl _ _).alloc (Nat.le_refl _) _).alloc (by simp) _).alloc (by simp; omega) _).trans (pw_below_drewN (Below.refl _ _) _)).setCell (by simp; omega) _).trans (pw_below_drewN (Below.refl _ _) _)).setCell (by simp; omega) _).setCell (by simp) _).setCell (by simp) _)
theorem divided_any (n0 n1 c : Nat) (h0 : n0 < 18446744073709551616) (h1 : n1 < 18446744073709551616) (hc0 : 0 < c) (hc : c < 18446744073709551616) (w : World) :
    Calls Try.prog 41 #[.agg #[.int .u64 n0, .int .u64 n1], .int .u64 c] w fun e w' =>
      e = .returned (.tuple #[.agg #[.int .u64 (n0 / c : Nat), .int .u64 ((n0 % c * 18446744073709551616 + n1) / c : Nat)], .int .u64 ((n0 % c * 18446744073709551616 + n1) % c : Nat)]) ∧ Below w.heap.size w w' := by
  have d0 := div64_any 0 n0 c hc0 hc h0
  rw [show 0 * 18446744073709551616 + n0 = n0 by omega] at d0
  exact divided_walk n0 n1 c (n0 / c : Nat) (n0 % c : Nat) _ _ w ⟨d0⟩ ⟨div64_any (n0 % c) n1 c (Nat.mod_lt _ hc0) hc h1⟩
end Go.Proofs.Ytpmbacgdbnfeeaa.B
