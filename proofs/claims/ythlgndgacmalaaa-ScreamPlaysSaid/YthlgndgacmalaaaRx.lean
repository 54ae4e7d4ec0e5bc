/-
  What the reference of numbers with 32 bits behind the point has, what the program has. Walks over the reference.
-/
import Derived.Test.YthlgndgacmalaaaDe
import Derived.Test.YthlgndgacmalaaaFx
import Derived.Test.YthlgndgacmalaaaCl
namespace Go.Proofs.Ythlgndgacmalaaa.B
open Go.RowKit Go.Proofs.YthlgndgacmalaaaW.PrintWords Go.Proofs.YthlgndgacmalaaaW.PrintLast Go.Proofs.YthlgndgacmalaaaW.PrintMore
set_option linter.unusedVariables false
set_option linter.unusedSimpArgs false
theorem rsub_any (a b : Int) (ha : I64 a) (hb : I64 b) (w : World) : Calls Try.prog 58 #[.int .i64 a, .int .i64 b] w fun e w' => e = .returned (.int .i64 (hold (a - b))) ∧ w' = w := by
  have h0 := ha.1
  have h1 := ha.2
  have h2 := hb.1
  have h3 := hb.2
  clear ha hb
  go_enter Try.func58, Try.ntmps58
  go_wp2
  all_goals go_ret
  all_goals (refine ⟨ret_int ?_, rfl⟩; unfold hold; split; omega; split <;> omega)
theorem rneg_any (a : Int) (ha : I64 a) (w : World) : Calls Try.prog 56 #[.int .i64 a] w fun e w' => e = .returned (.int .i64 (hold (0 - a))) ∧ w' = w := by
  have C := Aside0.mk (fun w => rsub_any 0 a (by decide) ha w)
  clear ha
  generalize hold (0 - a) = V at *
  go_enter Try.func56, Try.ntmps56
  go_wp2_with fail
  refine (C.out _).mono ?_
  rintro e w1 ⟨rfl, rfl⟩
  go_wp2_with fail
  go_ret
  exact ⟨rfl, rfl⟩
theorem rabs_any (a : Int) (ha : I64 a) (hm : a ≠ -9223372036854775808) (w : World) : Calls Try.prog 50 #[.int .i64 a] w fun e w' => e = .returned (.int .i64 ((a.natAbs : Nat) : Int)) ∧ w' = w := by
  have C := Aside0.mk (fun w => rneg_any a ha w)
  have h0 := ha.1
  have h1 := ha.2
  clear ha
  by_cases h : a < 0
  · rw [show hold (0 - a) = ((a.natAbs : Nat) : Int) by rw [hold_in (by omega) (by omega)]; omega] at C
    generalize ((a.natAbs : Nat) : Int) = V at *
    clear hm
    go_enter Try.func50, Try.ntmps50
    go_wp2_with fail
    refine (C.out _).mono ?_
    rintro e w1 ⟨rfl, rfl⟩
    go_wp2_with fail
    go_ret
    exact ⟨rfl, rfl⟩
  · rw [show ((a.natAbs : Nat) : Int) = a by omega]
    clear C hm
    go_enter Try.func50, Try.ntmps50
    go_wp2_with fail
    go_ret
    exact ⟨rfl, rfl⟩
set_option maxHeartbeats 1000000 in
theorem rmul32_any (a : Int) (ha : I64 a) (w : World) : Calls Try.prog 42 #[.int .i64 a, .int .i64 4294967296] w fun e w' => e = .returned (.int .i64 (hold (a * 4294967296))) ∧ Below w.heap.size w w' := by
  by_cases hm : a = -9223372036854775808
  · subst hm
    go_enter Try.func42, Try.ntmps42
    go_wp2
    all_goals go_ret
    exact ⟨rfl, Below.refl _ _⟩
  · have C1 := Aside0.mk (fun w => rabs_any a ha hm w)
    have C2 := Aside0.mk (fun w => rabs_any 4294967296 (by decide) (by decide) w)
    rw [show (((4294967296 : Int).natAbs : Nat) : Int) = 4294967296 by rfl] at C2
    have h0 := ha.1
    have h1 := ha.2
    obtain ⟨X, hX⟩ : ∃ X, X = ((a.natAbs : Nat) : Int) := ⟨_, rfl⟩
    rw [← hX] at C1
    have hX1 : (a < 0 ∧ X = -a) ∨ (0 ≤ a ∧ X = a) := by omega
    have k0 : (a == -9223372036854775808) = false := beq_eq_false_iff_ne.2 hm
    clear ha hX
    have HX := Aside0.mk hX1
    have hX0 : 0 ≤ X := by omega
    have hX2 : X ≤ 9223372036854775807 := by omega
    clear hX1
    by_cases h2 : a = 0
    · have k1 : (a == 0) = true := by simp [h2]
      go_enter Try.func42, Try.ntmps42
      go_wp2_with fail
      all_goals go_ret
      refine ⟨ret_int ?_, Below.refl _ _⟩
      subst h2
      decide
    · have k1 : (a == 0) = false := beq_eq_false_iff_ne.2 h2
      by_cases h3 : a = 1
      · have k2 : (a == 1) = true := by simp [h3]
        go_enter Try.func42, Try.ntmps42
        go_wp2_with fail
        all_goals go_ret
        refine ⟨ret_int ?_, Below.refl _ _⟩
        subst h3
        decide
      · have k2 : (a == 1) = false := beq_eq_false_iff_ne.2 h3
        clear h2 h3 hm
        by_cases h4 : 0 < a
        · have k3 : decide (0 < a) = true := decide_eq_true h4
          go_enter Try.func42, Try.ntmps42
          go_wp2_with fail
          refine (C1.out _).mono ?_
          rintro e w1 ⟨rfl, rfl⟩
          go_wp2_with fail
          refine (C2.out _).mono ?_
          rintro e w1 ⟨rfl, rfl⟩
          go_wp2_with fail
          all_goals go_ret
          all_goals (refine ⟨ret_int ?_, Below.refl _ _⟩; have := HX.out; unfold hold; (try unfold wrap64); split; omega; split <;> omega)
        · have k3 : decide (0 < a) = false := decide_eq_false h4
          go_enter Try.func42, Try.ntmps42
          go_wp2_with fail
          refine (C1.out _).mono ?_
          rintro e w1 ⟨rfl, rfl⟩
          go_wp2_with fail
          refine (C2.out _).mono ?_
          rintro e w1 ⟨rfl, rfl⟩
          go_wp2_with fail
          all_goals go_ret
          all_goals (refine ⟨ret_int ?_, Below.refl _ _⟩; have := HX.out; unfold hold; (try unfold wrap64); split; omega; split <;> omega)
theorem rof_any (a : Int) (ha : I64 a) (w : World) : Calls Try.prog 30 #[.int .i64 a] w fun e w' => e = .returned (.int .i64 (hold (a * 4294967296))) ∧ Below w.heap.size w w' := by
  have C := Aside0.mk (fun w => rmul32_any a ha w)
  clear ha
  generalize hold (a * 4294967296) = V at *
  go_enter Try.func30, Try.ntmps30
  have B0 : Aside0 (Below w.heap.size w w) := ⟨Below.refl _ _⟩
  go_wp2_with fail
  refine (C.out _).mono ?_
  rintro e v1 ⟨rfl, hb⟩
  have B1 := Aside0.mk (B0.out.trans (hb.mono B0.out.size))
  clear hb
  go_wp2_with fail
  go_ret
  exact ⟨rfl, B1.out⟩
theorem rint_any (a : Int) (ha : I64 a) (w : World) : Calls Try.prog 32 #[.int .i64 a] w fun e w' => e = .returned (.int .i64 (mdo a 1 4294967296 1)) ∧ Below w.heap.size w w' := by
  have C := Aside0.mk (fun w => rdo_any a 1 4294967296 1 ha (by decide) (by decide) (by decide) w)
  clear ha
  generalize mdo a 1 4294967296 1 = V at *
  go_enter Try.func32, Try.ntmps32
  have B0 : Aside0 (Below w.heap.size w w) := ⟨Below.refl _ _⟩
  go_wp2_with fail
  refine (C.out _).mono ?_
  rintro e v1 ⟨rfl, hb⟩
  have B1 := Aside0.mk (B0.out.trans (hb.mono B0.out.size))
  clear hb
  go_wp2_with fail
  go_ret
  exact ⟨rfl, B1.out⟩
theorem rmul3_any (a b : Int) (ha : I64 a) (hb : I64 b) (w : World) : Calls Try.prog 33 #[.int .i64 a, .int .i64 b] w fun e w' => e = .returned (.int .i64 (mdo a b 4294967296 2)) ∧ Below w.heap.size w w' := by
  have C := Aside0.mk (fun w => rdo_any a b 4294967296 2 ha hb (by decide) (by decide) w)
  clear ha hb
  generalize mdo a b 4294967296 2 = V at *
  go_enter Try.func33, Try.ntmps33
  have B0 : Aside0 (Below w.heap.size w w) := ⟨Below.refl _ _⟩
  go_wp2_with fail
  refine (C.out _).mono ?_
  rintro e v1 ⟨rfl, hb⟩
  have B1 := Aside0.mk (B0.out.trans (hb.mono B0.out.size))
  clear hb
  go_wp2_with fail
  go_ret
  exact ⟨rfl, B1.out⟩
theorem rdiv3_any (a b : Int) (ha : I64 a) (hb : I64 b) (w : World) : Calls Try.prog 29 #[.int .i64 a, .int .i64 b] w fun e w' => e = .returned (.int .i64 (mdo a 4294967296 b 2)) ∧ Below w.heap.size w w' := by
  have C := Aside0.mk (fun w => rdo_any a 4294967296 b 2 ha (by decide) hb (by decide) w)
  clear ha hb
  generalize mdo a 4294967296 b 2 = V at *
  go_enter Try.func29, Try.ntmps29
  have B0 : Aside0 (Below w.heap.size w w) := ⟨Below.refl _ _⟩
  go_wp2_with fail
  refine (C.out _).mono ?_
  rintro e v1 ⟨rfl, hb⟩
  have B1 := Aside0.mk (B0.out.trans (hb.mono B0.out.size))
  clear hb
  go_wp2_with fail
  go_ret
  exact ⟨rfl, B1.out⟩
theorem r4bytes_any (a b : Int) (ha : I64 a) (hb : I64 b) (w : World) : Calls Try.prog 27 #[.int .i64 a, .int .i64 b] w fun e w' => e = .returned (.int .i64 (mdo a b 8000000 1)) ∧ Below w.heap.size w w' := by
  have C := Aside0.mk (fun w => rdo_any a b 8000000 1 ha hb (by decide) (by decide) w)
  clear ha hb
  generalize mdo a b 8000000 1 = V at *
  go_enter Try.func27, Try.ntmps27
  have B0 : Aside0 (Below w.heap.size w w) := ⟨Below.refl _ _⟩
  go_wp2_with fail
  refine (C.out _).mono ?_
  rintro e v1 ⟨rfl, hb⟩
  have B1 := Aside0.mk (B0.out.trans (hb.mono B0.out.size))
  clear hb
  go_wp2_with fail
  go_ret
  exact ⟨rfl, B1.out⟩
theorem r4rate_any (a b : Int) (ha : I64 a) (hb : I64 b) (w : World) : Calls Try.prog 34 #[.int .i64 a, .int .i64 b] w fun e w' => e = .returned (.int .i64 (mdo a 8000000 b 1)) ∧ Below w.heap.size w w' := by
  have C := Aside0.mk (fun w => rdo_any a 8000000 b 1 ha (by decide) hb (by decide) w)
  clear ha hb
  generalize mdo a 8000000 b 1 = V at *
  go_enter Try.func34, Try.ntmps34
  have B0 : Aside0 (Below w.heap.size w w) := ⟨Below.refl _ _⟩
  go_wp2_with fail
  refine (C.out _).mono ?_
  rintro e v1 ⟨rfl, hb⟩
  have B1 := Aside0.mk (B0.out.trans (hb.mono B0.out.size))
  clear hb
  go_wp2_with fail
  go_ret
  exact ⟨rfl, B1.out⟩
theorem rclamp_any (a lo hi : Int) (w : World) : Calls Try.prog 28 #[.int .i64 a, .int .i64 lo, .int .i64 hi] w fun e w' => e = .returned (.int .i64 (cl a lo hi)) ∧ w' = w := by
  have hc : (a < lo ∧ cl a lo hi = lo) ∨ (lo ≤ a ∧ hi < a ∧ cl a lo hi = hi) ∨ (lo ≤ a ∧ a ≤ hi ∧ cl a lo hi = a) := by
    unfold cl; split; exact .inl ⟨by omega, rfl⟩; split; exact .inr (.inl ⟨by omega, by omega, rfl⟩); exact .inr (.inr ⟨by omega, by omega, rfl⟩)
  generalize cl a lo hi = V at *
  rcases hc with ⟨h, hV⟩ | ⟨h, h2, hV⟩ | ⟨h, h2, hV⟩
  all_goals
    subst hV
    go_enter Try.func28, Try.ntmps28
    go_wp2
    go_ret
    exact ⟨rfl, rfl⟩
end Go.Proofs.Ythlgndgacmalaaa.B
