/-
  Numbers with 32 bits behind the point: what the reference has is what the program has; what a number fades to. Walks over both.
-/
import Derived.Test.YthkjfcjmjhplaaaDoorDe
import Derived.Test.YthkjfcjmjhplaaaDoorFf
namespace Go.Proofs.YthkjfcjmjhplaaaDoor.B
open Go.RowKit Go.Proofs.YthkjfcjmjhplaaaDoorW.PrintWords Go.Proofs.YthkjfcjmjhplaaaDoorW.PrintLast Go.Proofs.YthkjfcjmjhplaaaDoorW.PrintMore
set_option linter.unusedVariables false
set_option linter.unusedSimpArgs false
theorem radd_any (a b : Int) (ha : I64 a) (hb : I64 b) (w : World) : Calls Tryd.prog 30 #[.int .i64 a, .int .i64 b] w fun e w' => e = .returned (.int .i64 (hold (a + b))) ∧ w' = w := by
  have h0 := ha.1
  have h1 := ha.2
  have h2 := hb.1
  have h3 := hb.2
  clear ha hb
  go_enter Tryd.func30, Tryd.ntmps30
  go_wp2
  all_goals go_ret
  all_goals (refine ⟨ret_int ?_, rfl⟩; unfold hold; split; omega; split <;> omega)
theorem rsub_any (a b : Int) (ha : I64 a) (hb : I64 b) (w : World) : Calls Tryd.prog 31 #[.int .i64 a, .int .i64 b] w fun e w' => e = .returned (.int .i64 (hold (a - b))) ∧ w' = w := by
  have h0 := ha.1
  have h1 := ha.2
  have h2 := hb.1
  have h3 := hb.2
  clear ha hb
  go_enter Tryd.func31, Tryd.ntmps31
  go_wp2
  all_goals go_ret
  all_goals (refine ⟨ret_int ?_, rfl⟩; unfold hold; split; omega; split <;> omega)
theorem rneg_any (a : Int) (ha : I64 a) (w : World) : Calls Tryd.prog 39 #[.int .i64 a] w fun e w' => e = .returned (.int .i64 (hold (0 - a))) ∧ w' = w := by
  have C := Aside0.mk (fun w => rsub_any 0 a (by decide) ha w)
  clear ha
  generalize hold (0 - a) = V at *
  go_enter Tryd.func39, Tryd.ntmps39
  go_wp2_with fail
  refine (C.out _).mono ?_
  rintro e w1 ⟨rfl, rfl⟩
  go_wp2_with fail
  go_ret
  exact ⟨rfl, rfl⟩
theorem rabs_any (a : Int) (ha : I64 a) (hm : a ≠ -9223372036854775808) (w : World) : Calls Tryd.prog 34 #[.int .i64 a] w fun e w' => e = .returned (.int .i64 ((a.natAbs : Nat) : Int)) ∧ w' = w := by
  have C := Aside0.mk (fun w => rneg_any a ha w)
  have h0 := ha.1
  have h1 := ha.2
  clear ha
  by_cases h : a < 0
  · rw [show hold (0 - a) = ((a.natAbs : Nat) : Int) by rw [hold_in (by omega) (by omega)]; omega] at C
    generalize ((a.natAbs : Nat) : Int) = V at *
    clear hm
    go_enter Tryd.func34, Tryd.ntmps34
    go_wp2_with fail
    refine (C.out _).mono ?_
    rintro e w1 ⟨rfl, rfl⟩
    go_wp2_with fail
    go_ret
    exact ⟨rfl, rfl⟩
  · rw [show ((a.natAbs : Nat) : Int) = a by omega]
    clear C hm
    go_enter Tryd.func34, Tryd.ntmps34
    go_wp2_with fail
    go_ret
    exact ⟨rfl, rfl⟩
set_option maxHeartbeats 1000000 in
theorem rmul32_any (a : Int) (ha : I64 a) (w : World) : Calls Tryd.prog 25 #[.int .i64 a, .int .i64 4294967296] w fun e w' => e = .returned (.int .i64 (hold (a * 4294967296))) ∧ Below w.heap.size w w' := by
  by_cases hm : a = -9223372036854775808
  · subst hm
    go_enter Tryd.func25, Tryd.ntmps25
    go_wp2
    all_goals go_ret
    exact ⟨rfl, Below.refl _ _⟩
  · have C1 := Aside0.mk (fun w => rabs_any a ha hm w)
    have C2 := Aside0.mk (fun w => rabs_any 4294967296 (by decide) (by decide) w)
    rw [show (((4294967296 : Int).natAbs : Nat) : Int) = 4294967296 by rfl] at C2
    have h0 := ha.1
    have h1 := ha.2
    obtain ⟨X, hX⟩ : ∃ X, X = ((a.natAbs : Nat) : Int) := ⟨_, rfl⟩
    rw [← hX] at C1
    have hX1 : (a < 0 ∧ X = -a) ∨ (0 ≤ a ∧ X = a) := by omega
    have k0 : (a == -9223372036854775808) = false := beq_eq_false_iff_ne.2 hm
    clear ha hX
    have HX := Aside0.mk hX1
    have hX0 : 0 ≤ X := by omega
    have hX2 : X ≤ 9223372036854775807 := by omega
    clear hX1
    by_cases h2 : a = 0
    · have k1 : (a == 0) = true := by simp [h2]
      go_enter Tryd.func25, Tryd.ntmps25
      go_wp2_with fail
      all_goals go_ret
      refine ⟨ret_int ?_, Below.refl _ _⟩
      subst h2
      decide
    · have k1 : (a == 0) = false := beq_eq_false_iff_ne.2 h2
      by_cases h3 : a = 1
      · have k2 : (a == 1) = true := by simp [h3]
        go_enter Tryd.func25, Tryd.ntmps25
        go_wp2_with fail
        all_goals go_ret
        refine ⟨ret_int ?_, Below.refl _ _⟩
        subst h3
        decide
      · have k2 : (a == 1) = false := beq_eq_false_iff_ne.2 h3
        clear h2 h3 hm
        by_cases h4 : 0 < a
        · have k3 : decide (0 < a) = true := decide_eq_true h4
          go_enter Tryd.func25, Tryd.ntmps25
          go_wp2_with fail
          refine (C1.out _).mono ?_
          rintro e w1 ⟨rfl, rfl⟩
          go_wp2_with fail
          refine (C2.out _).mono ?_
          rintro e w1 ⟨rfl, rfl⟩
          go_wp2_with fail
          all_goals go_ret
          all_goals (refine ⟨ret_int ?_, Below.refl _ _⟩; have := HX.out; unfold hold; (try unfold wrap64); split; omega; split <;> omega)
        · have k3 : decide (0 < a) = false := decide_eq_false h4
          go_enter Tryd.func25, Tryd.ntmps25
          go_wp2_with fail
          refine (C1.out _).mono ?_
          rintro e w1 ⟨rfl, rfl⟩
          go_wp2_with fail
          refine (C2.out _).mono ?_
          rintro e w1 ⟨rfl, rfl⟩
          go_wp2_with fail
          all_goals go_ret
          all_goals (refine ⟨ret_int ?_, Below.refl _ _⟩; have := HX.out; unfold hold; (try unfold wrap64); split; omega; split <;> omega)
theorem rof_any (a : Int) (ha : I64 a) (w : World) : Calls Tryd.prog 14 #[.int .i64 a] w fun e w' => e = .returned (.int .i64 (hold (a * 4294967296))) ∧ Below w.heap.size w w' := by
  have C := Aside0.mk (fun w => rmul32_any a ha w)
  clear ha
  generalize hold (a * 4294967296) = V at *
  go_enter Tryd.func14, Tryd.ntmps14
  have B0 : Aside0 (Below w.heap.size w w) := ⟨Below.refl _ _⟩
  go_wp2_with fail
  refine (C.out _).mono ?_
  rintro e v1 ⟨rfl, hb⟩
  have B1 := Aside0.mk (B0.out.trans (hb.mono B0.out.size))
  clear hb
  go_wp2_with fail
  go_ret
  exact ⟨rfl, B1.out⟩
theorem rint_any (a : Int) (ha : I64 a) (w : World) : Calls Tryd.prog 16 #[.int .i64 a] w fun e w' => e = .returned (.int .i64 (mdo a 1 4294967296 1)) ∧ Below w.heap.size w w' := by
  have C := Aside0.mk (fun w => rdo_any a 1 4294967296 1 ha (by decide) (by decide) (by decide) w)
  clear ha
  generalize mdo a 1 4294967296 1 = V at *
  go_enter Tryd.func16, Tryd.ntmps16
  have B0 : Aside0 (Below w.heap.size w w) := ⟨Below.refl _ _⟩
  go_wp2_with fail
  refine (C.out _).mono ?_
  rintro e v1 ⟨rfl, hb⟩
  have B1 := Aside0.mk (B0.out.trans (hb.mono B0.out.size))
  clear hb
  go_wp2_with fail
  go_ret
  exact ⟨rfl, B1.out⟩
theorem rmul3_any (a b : Int) (ha : I64 a) (hb : I64 b) (w : World) : Calls Tryd.prog 18 #[.int .i64 a, .int .i64 b] w fun e w' => e = .returned (.int .i64 (mdo a b 4294967296 2)) ∧ Below w.heap.size w w' := by
  have C := Aside0.mk (fun w => rdo_any a b 4294967296 2 ha hb (by decide) (by decide) w)
  clear ha hb
  generalize mdo a b 4294967296 2 = V at *
  go_enter Tryd.func18, Tryd.ntmps18
  have B0 : Aside0 (Below w.heap.size w w) := ⟨Below.refl _ _⟩
  go_wp2_with fail
  refine (C.out _).mono ?_
  rintro e v1 ⟨rfl, hb⟩
  have B1 := Aside0.mk (B0.out.trans (hb.mono B0.out.size))
  clear hb
  go_wp2_with fail
  go_ret
  exact ⟨rfl, B1.out⟩
theorem rdiv3_any (a b : Int) (ha : I64 a) (hb : I64 b) (w : World) : Calls Tryd.prog 20 #[.int .i64 a, .int .i64 b] w fun e w' => e = .returned (.int .i64 (mdo a 4294967296 b 2)) ∧ Below w.heap.size w w' := by
  have C := Aside0.mk (fun w => rdo_any a 4294967296 b 2 ha (by decide) hb (by decide) w)
  clear ha hb
  generalize mdo a 4294967296 b 2 = V at *
  go_enter Tryd.func20, Tryd.ntmps20
  have B0 : Aside0 (Below w.heap.size w w) := ⟨Below.refl _ _⟩
  go_wp2_with fail
  refine (C.out _).mono ?_
  rintro e v1 ⟨rfl, hb⟩
  have B1 := Aside0.mk (B0.out.trans (hb.mono B0.out.size))
  clear hb
  go_wp2_with fail
  go_ret
  exact ⟨rfl, B1.out⟩
theorem rmix_any (x y z : Int) (hx : I64 x) (hy : I64 y) (hz : I64 z) (w : World) : Calls Tryd.prog 22 #[.int .i64 x, .int .i64 y, .int .i64 z] w fun e w' => e = .returned (.int .i64 (mixI x y z)) ∧ Below w.heap.size w w' := by
  unfold mixI
  have C1 := Aside0.mk (fun w => rsub_any y x hy hx w)
  have C2 := Aside0.mk (fun w => rmul3_any (hold (y - x)) z (hold_i64 _) hz w)
  have C3 := Aside0.mk (fun w => radd_any x (mdo (hold (y - x)) z 4294967296 2) hx (mdo_range _ _ _ _) w)
  clear hx hy hz
  generalize hold (x + mdo (hold (y - x)) z 4294967296 2) = V3 at *
  generalize mdo (hold (y - x)) z 4294967296 2 = V2 at *
  generalize hold (y - x) = V1 at *
  go_enter Tryd.func22, Tryd.ntmps22
  have B0 : Aside0 (Below w.heap.size w w) := ⟨Below.refl _ _⟩
  go_wp2_with fail
  refine (C1.out _).mono ?_
  rintro e v1 ⟨rfl, rfl⟩
  go_wp2_with fail
  refine (C2.out _).mono ?_
  rintro e v2 ⟨rfl, hb⟩
  have B2 := Aside0.mk (B0.out.trans (hb.mono B0.out.size))
  clear hb
  go_wp2_with fail
  refine (C3.out _).mono ?_
  rintro e v3 ⟨rfl, rfl⟩
  go_wp2_with fail
  go_ret
  exact ⟨rfl, B2.out⟩
theorem shl_pow (n : Nat) (h : n ≤ 62) : 1 ≤ (2 : Int) ^ n ∧ (2 : Int) ^ n ≤ 4611686018427387904 := by
  have h1 : (1 : Int) ≤ 2 ^ n := Int.pow_pos (by omega)
  have h2 : 2 ^ n ≤ 2 ^ 62 := Nat.pow_le_pow_right (by omega) h
  refine ⟨h1, ?_⟩
  have h3 : ((2 ^ n : Nat) : Int) ≤ ((2 ^ 62 : Nat) : Int) := Int.ofNat_le.2 h2
  rw [Int.natCast_pow] at h3
  exact h3
set_option maxHeartbeats 1000000 in
theorem rhalf_any (x n : Int) (hx : I64 x) (hn : I64 n) (w : World) : Calls Tryd.prog 23 #[.int .i64 x, .int .i64 n] w fun e w' => e = .returned (.int .i64 (halfI x n)) ∧ Below w.heap.size w w' := by
  have h0 := hx.1
  have h1 := hx.2
  unfold halfI
  by_cases c1 : n < 0
  · rw [if_pos c1]
    have k1 : decide (n < 0) = true := decide_eq_true c1
    go_enter Tryd.func23, Tryd.ntmps23
    go_wp2_with fail
    go_ret
    exact ⟨rfl, Below.refl _ _⟩
  · rw [if_neg c1]
    have k1 : decide (n < 0) = false := decide_eq_false c1
    by_cases c2 : 62 < n
    · rw [if_pos c2]
      have k2 : decide (62 < n) = true := decide_eq_true c2
      go_enter Tryd.func23, Tryd.ntmps23
      go_wp2_with fail
      all_goals go_ret
      all_goals (refine ⟨ret_int ?_, Below.refl _ _⟩; omega)
    · rw [if_neg c2]
      have k2 : decide (62 < n) = false := decide_eq_false c2
      obtain ⟨m, rfl⟩ := Int.eq_ofNat_of_zero_le (show 0 ≤ n by omega)
      have hm : m ≤ 62 := by omega
      have hp := shl_pow m hm
      have C := Aside0.mk (fun w => rdo_any x 1 (2 ^ m) 1 hx (by decide) (by unfold I64; omega) (by decide) w)
      rw [mdo_down x 1 (2 ^ m) (by omega), Int.mul_one, hold_in (half_i64 x m hx).1 (half_i64 x m hx).2] at C
      rw [Int.toNat_natCast]
      have hw : wrap64 (2 ^ m) = 2 ^ m := by
        unfold wrap64
        generalize (2 : Int) ^ m = p at *
        omega
      generalize x / 2 ^ m = V at *
      have HW := Aside0.mk hw
      clear hw hx hn hp c1 c2
      go_enter Tryd.func23, Tryd.ntmps23
      go_wp2_with fail
      rw [HW.out]
      refine (C.out _).mono ?_
      rintro e w1 ⟨rfl, hb⟩
      go_wp2_with fail
      go_ret
      exact ⟨rfl, hb⟩
/-- The factors lie where the program lays them. -/
def Factors (w : World) : Prop := w.cell? ⟨0, 0, none⟩ = some (.int .i64 (-2977044472)) ∧ w.cell? ⟨0, 1, none⟩ = some (.int .i64 1031764991) ∧ w.cell? ⟨0, 2, none⟩ = some (.int .i64 (-206353000))
theorem Factors.below {w w1 : World} (h : Factors w) (k : Below w.heap.size w w1) : Factors w1 := by
  have h0 := World.block_lt_of_cell? w _ h.1
  have hb := k.block 0 h0
  refine ⟨?_, ?_, ?_⟩
  · rw [World.cell?_of_block (w := w) hb]
    exact h.1
  · rw [World.cell?_of_block (w := w) hb]
    exact h.2.1
  · rw [World.cell?_of_block (w := w) hb]
    exact h.2.2
def FdRel (w : World) (f m1 f2 m2 f3 m3 f4 : Int) (v6 v7 v27 : Value) (wr : World) : Prop :=
  (v27 = .int .i64 0 ∧ v6 = .int .i64 4294967296 ∧ v7 = .int .i64 f ∨ v27 = .int .i64 1 ∧ v6 = .int .i64 (4294967296 - m1) ∧ v7 = .int .i64 f2 ∨ v27 = .int .i64 2 ∧ v6 = .int .i64 (4294967296 - m1 + m2) ∧ v7 = .int .i64 f3 ∨ v27 = .int .i64 3 ∧ v6 = .int .i64 (4294967296 - m1 + m2 - m3) ∧ v7 = .int .i64 f4) ∧ Aside0 (Below w.heap.size w wr)
set_option maxHeartbeats 4000000 in
theorem fade_mid (x y n f m1 f2 m2 f3 m3 f4 V : Int) (w : World) (hF : Factors w) (hx0 : 0 < x) (hx1 : x < 94489280512)
    (hf0 : 0 ≤ f) (hf1 : f < 4294967296) (hm1 : 0 ≤ m1 ∧ m1 ≤ 2977044472) (hm2 : 0 ≤ m2 ∧ m2 ≤ m1) (hm3 : 0 ≤ m3 ∧ m3 ≤ 206353000) (hy0 : 0 ≤ y) (hy1 : y ≤ 136319216419) (hn : f = y - n * 4294967296)
    (CO : Aside0 (∀ w, Calls Tryd.prog 13 #[.int .i64 22] w fun e w' => e = .returned (.int .i64 94489280512) ∧ Below w.heap.size w w'))
    (CY : Aside0 (∀ w, Calls Tryd.prog 17 #[.int .i64 x, .int .i64 6196328019] w fun e w' => e = .returned (.int .i64 y) ∧ Below w.heap.size w w'))
    (CI : Aside0 (∀ w, Calls Tryd.prog 15 #[.int .i64 y] w fun e w' => e = .returned (.int .i64 n) ∧ Below w.heap.size w w'))
    (CN : Aside0 (∀ w, Calls Tryd.prog 13 #[.int .i64 n] w fun e w' => e = .returned (.int .i64 (n * 4294967296)) ∧ Below w.heap.size w w'))
    (C1 : Aside0 (∀ w, Calls Tryd.prog 17 #[.int .i64 f, .int .i64 2977044472] w fun e w' => e = .returned (.int .i64 m1) ∧ Below w.heap.size w w'))
    (C2 : Aside0 (∀ w, Calls Tryd.prog 17 #[.int .i64 f, .int .i64 f] w fun e w' => e = .returned (.int .i64 f2) ∧ Below w.heap.size w w'))
    (C3 : Aside0 (∀ w, Calls Tryd.prog 17 #[.int .i64 f2, .int .i64 1031764991] w fun e w' => e = .returned (.int .i64 m2) ∧ Below w.heap.size w w'))
    (C4 : Aside0 (∀ w, Calls Tryd.prog 17 #[.int .i64 f2, .int .i64 f] w fun e w' => e = .returned (.int .i64 f3) ∧ Below w.heap.size w w'))
    (C5 : Aside0 (∀ w, Calls Tryd.prog 17 #[.int .i64 f3, .int .i64 206353000] w fun e w' => e = .returned (.int .i64 m3) ∧ Below w.heap.size w w'))
    (C6 : Aside0 (∀ w, Calls Tryd.prog 17 #[.int .i64 f3, .int .i64 f] w fun e w' => e = .returned (.int .i64 f4) ∧ Below w.heap.size w w'))
    (CH : Aside0 (∀ w, Calls Tryd.prog 12 #[.int .i64 (4294967296 - m1 + m2 - m3), .int .i64 n] w fun e w' => e = .returned (.int .i64 V) ∧ w' = w)) :
    Calls Tryd.prog 9 #[.int .i64 x] w fun e w' => e = .returned (.int .i64 V) ∧ Below w.heap.size w w' := by
  have q1 := hm1.1
  have q2 := hm1.2
  have q3 := hm2.1
  have q4 := hm2.2
  have q5 := hm3.1
  have q6 := hm3.2
  have HF := Aside0.mk hF
  have HN := Aside0.mk hn
  have r1 : decide (x ≤ 0) = false := by simp; omega
  have r2 : decide (94489280512 ≤ x) = false := by simp; omega
  obtain ⟨n32, hn32⟩ : ∃ m, m = n * 4294967296 := ⟨_, rfl⟩
  rw [← hn32] at CN
  have hfn : f = y - n32 := by omega
  have b1 : -4294967296 ≤ n32 := by omega
  have b2 : n32 ≤ 136319216419 := by omega
  have HFN := Aside0.mk hfn
  clear hF hn hm1 hm2 hm3 hn32 hfn
  go_enter Tryd.func9, Tryd.ntmps9
  go_wp2_with fail
  refine (CO.out _).mono ?_
  rintro e w1 ⟨rfl, hb⟩
  have B1 := Aside0.mk hb
  clear hb
  go_wp2_with fail
  refine (CY.out _).mono ?_
  rintro e w2 ⟨rfl, hb⟩
  have B2 := Aside0.mk (B1.out.trans (hb.mono B1.out.size))
  clear hb
  go_wp2_with fail
  refine (CI.out _).mono ?_
  rintro e w3 ⟨rfl, hb⟩
  have B3 := Aside0.mk (B2.out.trans (hb.mono B2.out.size))
  clear hb
  go_wp2_with fail
  refine (CN.out _).mono ?_
  rintro e w4 ⟨rfl, hb⟩
  have B4 := Aside0.mk (B3.out.trans (hb.mono B3.out.size))
  clear hb
  have F4 := HF.out.below B4.out
  have c0 := F4.1
  have c1 := F4.2.1
  have c2 := F4.2.2
  clear F4
  have i0 : ∀ w, (Instr.index 30 (.agg #[.int .i64 (-2977044472), .int .i64 1031764991, .int .i64 (-206353000)]) (.int .i64 0)).run Tryd.prog w = .ok (.int .i64 (-2977044472)) w := fun _ => by kernel_rfl
  have i1 : ∀ w, (Instr.index 30 (.agg #[.int .i64 (-2977044472), .int .i64 1031764991, .int .i64 (-206353000)]) (.int .i64 1)).run Tryd.prog w = .ok (.int .i64 1031764991) w := fun _ => by kernel_rfl
  have i2 : ∀ w, (Instr.index 30 (.agg #[.int .i64 (-2977044472), .int .i64 1031764991, .int .i64 (-206353000)]) (.int .i64 2)).run Tryd.prog w = .ok (.int .i64 (-206353000)) w := fun _ => by kernel_rfl
  go_wp2_with fail
  rw [← HFN.out]
  go_loopw [6, 7, 27] (fun v6 v7 v27 wr => FdRel w f m1 f2 m2 f3 m3 f4 v6 v7 v27 wr) (fun _ _ v _ => 3 - (intOf v).toNat)
  case atStart => exact ⟨.inl ⟨rfl, rfl, rfl⟩, B4⟩
  case round =>
    obtain ⟨hk, hB⟩ := hrel
    rcases hk with ⟨rfl, rfl, rfl⟩ | ⟨rfl, rfl, rfl⟩ | ⟨rfl, rfl, rfl⟩ | ⟨rfl, rfl, rfl⟩
    · go_wp2_with fail
      refine (C1.out _).mono ?_
      rintro e w5 ⟨rfl, hb⟩
      have B5 := Aside0.mk (hB.out.trans (hb.mono hB.out.size))
      clear hb
      go_wp2_with fail
      refine (C2.out _).mono ?_
      rintro e w6 ⟨rfl, hb⟩
      have B6 := Aside0.mk (B5.out.trans (hb.mono B5.out.size))
      clear hb
      go_wp2_with fail
      exact ⟨⟨.inr (.inl ⟨rfl, rfl, rfl⟩), B6⟩, by simp [intOf]⟩
    · go_wp2_with fail
      refine (C3.out _).mono ?_
      rintro e w5 ⟨rfl, hb⟩
      have B5 := Aside0.mk (hB.out.trans (hb.mono hB.out.size))
      clear hb
      go_wp2_with fail
      refine (C4.out _).mono ?_
      rintro e w6 ⟨rfl, hb⟩
      have B6 := Aside0.mk (B5.out.trans (hb.mono B5.out.size))
      clear hb
      go_wp2_with fail
      exact ⟨⟨.inr (.inr (.inl ⟨rfl, rfl, rfl⟩)), B6⟩, by simp [intOf]⟩
    · go_wp2_with fail
      refine (C5.out _).mono ?_
      rintro e w5 ⟨rfl, hb⟩
      have B5 := Aside0.mk (hB.out.trans (hb.mono hB.out.size))
      clear hb
      go_wp2_with fail
      refine (C6.out _).mono ?_
      rintro e w6 ⟨rfl, hb⟩
      have B6 := Aside0.mk (B5.out.trans (hb.mono B5.out.size))
      clear hb
      go_wp2_with fail
      exact ⟨⟨.inr (.inr (.inr ⟨rfl, rfl, rfl⟩)), B6⟩, by simp [intOf]⟩
    · go_wp2_with fail
      refine (CH.out _).mono ?_
      rintro e w5 ⟨rfl, rfl⟩
      go_wp2_with fail
      go_ret
      exact ⟨rfl, hB.out⟩
theorem fade_high (x : Int) (hx : 94489280512 ≤ x) (w : World) : Calls Tryd.prog 9 #[.int .i64 x] w fun e w' => e = .returned (.int .i64 0) ∧ Below w.heap.size w w' := by
  have C := Aside0.mk (fun w => fof_any 22 (by decide) w)
  rw [show hold (22 * 4294967296) = 94489280512 by decide] at C
  have r1 : decide (x ≤ 0) = false := by simp; omega
  have r2 : decide (94489280512 ≤ x) = true := by simp; omega
  go_enter Tryd.func9, Tryd.ntmps9
  go_wp2_with fail
  refine (C.out _).mono ?_
  rintro e w1 ⟨rfl, hb⟩
  go_wp2_with fail
  go_ret
  exact ⟨rfl, hb⟩
/-- The numbers on the way. -/
theorem fade_way (x : Int) (hx0 : 0 < x) (hx1 : x < 94489280512) : ∃ y n f m1 f2 m2 f3 m3 f4 : Int, 0 ≤ f ∧ f < 4294967296 ∧ (0 ≤ m1 ∧ m1 ≤ 2977044472) ∧ (0 ≤ m2 ∧ m2 ≤ m1) ∧ (0 ≤ m3 ∧ m3 ≤ 206353000) ∧ 0 ≤ y ∧ y ≤ 136319216419 ∧ f = y - n * 4294967296 ∧ I64 f ∧ I64 f2 ∧ I64 f3 ∧ I64 y ∧ I64 n ∧ I64 (4294967296 - m1 + m2 - m3) ∧
    mdo x 6196328019 4294967296 2 = y ∧ mdo y 1 4294967296 1 = n ∧ hold (n * 4294967296) = n * 4294967296 ∧ mdo f 2977044472 4294967296 2 = m1 ∧ mdo f f 4294967296 2 = f2 ∧ mdo f2 1031764991 4294967296 2 = m2 ∧ mdo f2 f 4294967296 2 = f3 ∧ mdo f3 206353000 4294967296 2 = m3 ∧ mdo f3 f 4294967296 2 = f4 ∧ halfI (4294967296 - m1 + m2 - m3) n = fadeI x := by
  obtain ⟨y1, y2, y3, y4, y5⟩ := fade_y x hx0 hx1
  have hn0 : 0 ≤ mI x 6196328019 / 4294967296 := by omega
  have hn1 : mI x 6196328019 / 4294967296 ≤ 31 := by omega
  have hf0 : 0 ≤ mI x 6196328019 % 4294967296 := by omega
  have hf1 : mI x 6196328019 % 4294967296 < 4294967296 := by omega
  have hfy : mI x 6196328019 % 4294967296 = mI x 6196328019 - mI x 6196328019 / 4294967296 * 4294967296 := by omega
  have hfd : fadeI x = fdP (mI x 6196328019 % 4294967296) / 2 ^ (mI x 6196328019 / 4294967296).toNat := by
    unfold fadeI
    rw [if_neg (by omega), if_neg (by omega)]
  rw [hfd]
  clear hfd
  generalize mI x 6196328019 / 4294967296 = n at *
  generalize mI x 6196328019 % 4294967296 = f at *
  generalize mI x 6196328019 = y at *
  obtain ⟨a, b, c, d, e, g⟩ := fd_facts f hf0 hf1
  have hp := fdP_range f hf0 hf1
  refine ⟨y, n, f, mI f 2977044472, mI f f, mI (mI f f) 1031764991, mI (mI f f) f, mI (mI (mI f f) f) 206353000, mI (mI (mI f f) f) f, hf0, hf1, a, c, e, y2, y3, hfy, ⟨by omega, by omega⟩, ⟨by omega, by omega⟩, ⟨by omega, by omega⟩, ⟨by omega, by omega⟩, ⟨by omega, by omega⟩, ⟨by omega, by omega⟩, y1, y4, y5, (mI_eq f 2977044472 hf0 (by omega) (by omega) (by omega)).1, (mI_eq f f hf0 (by omega) hf0 (by omega)).1, (mI_eq (mI f f) 1031764991 b.1 (by omega) (by omega) (by omega)).1, (mI_eq (mI f f) f b.1 (by omega) hf0 (by omega)).1, (mI_eq (mI (mI f f) f) 206353000 d.1 (by omega) (by omega) (by omega)).1, (mI_eq (mI (mI f f) f) f d.1 (by omega) hf0 (by omega)).1, ?_⟩
  unfold halfI fdP
  rw [if_neg (by omega), if_neg (by omega)]
theorem fade_any (x : Int) (w : World) (hx : I64 x) (hF : Factors w) : Calls Tryd.prog 9 #[.int .i64 x] w fun e w' => e = .returned (.int .i64 (fadeI x)) ∧ Below w.heap.size w w' := by
  by_cases h0 : x ≤ 0
  · rw [show fadeI x = 4294967296 by unfold fadeI; rw [if_pos h0]]
    refine (fade_low x h0 w).mono ?_
    rintro e w' ⟨he, rfl⟩
    exact ⟨he, Below.refl _ _⟩
  · by_cases h1 : 94489280512 ≤ x
    · rw [show fadeI x = 0 by unfold fadeI; rw [if_neg h0, if_pos h1]]
      exact fade_high x h1 w
    · obtain ⟨y, n, f, m1, f2, m2, f3, m3, f4, p1, p2, p3, p4, p5, p6, p7, p8, i1, i2, i3, i4, i5, i6, e1, e2, e3, e4, e5, e6, e7, e8, e9, e10⟩ := fade_way x (by omega) (by omega)
      exact fade_mid x y n f m1 f2 m2 f3 m3 f4 _ w hF (by omega) (by omega) p1 p2 p3 p4 p5 p6 p7 p8 ⟨fun w => by have := fof_any 22 (by decide) w; rw [show hold (22 * 4294967296) = 94489280512 by decide] at this; exact this⟩ ⟨fun w => e1 ▸ fmul_any x 6196328019 hx (by decide) w⟩ ⟨fun w => e2 ▸ fint_any y i4 w⟩ ⟨fun w => by have := fof_any n i5 w; rw [e3] at this; exact this⟩ ⟨fun w => e4 ▸ fmul_any f 2977044472 i1 (by decide) w⟩ ⟨fun w => e5 ▸ fmul_any f f i1 i1 w⟩ ⟨fun w => e6 ▸ fmul_any f2 1031764991 i2 (by decide) w⟩ ⟨fun w => e7 ▸ fmul_any f2 f i2 i1 w⟩ ⟨fun w => e8 ▸ fmul_any f3 206353000 i3 (by decide) w⟩ ⟨fun w => e9 ▸ fmul_any f3 f i3 i1 w⟩ ⟨fun w => half_run _ n _ i6 i5 e10 w⟩
set_option maxHeartbeats 2000000 in
theorem rfade_mid (x y n f m1 f2 m2 f3 m3 V : Int) (w : World) (hx0 : 0 < x) (hx1 : x < 94489280512)
    (hf0 : 0 ≤ f) (hf1 : f < 4294967296) (hm1 : 0 ≤ m1 ∧ m1 ≤ 2977044472) (hm2 : 0 ≤ m2 ∧ m2 ≤ m1) (hm3 : 0 ≤ m3 ∧ m3 ≤ 206353000) (hy0 : 0 ≤ y) (hy1 : y ≤ 136319216419) (hn : f = y - n * 4294967296)
    (CO : Aside0 (∀ w, Calls Tryd.prog 14 #[.int .i64 22] w fun e w' => e = .returned (.int .i64 94489280512) ∧ Below w.heap.size w w'))
    (CY : Aside0 (∀ w, Calls Tryd.prog 18 #[.int .i64 x, .int .i64 6196328019] w fun e w' => e = .returned (.int .i64 y) ∧ Below w.heap.size w w'))
    (CI : Aside0 (∀ w, Calls Tryd.prog 16 #[.int .i64 y] w fun e w' => e = .returned (.int .i64 n) ∧ Below w.heap.size w w'))
    (CN : Aside0 (∀ w, Calls Tryd.prog 14 #[.int .i64 n] w fun e w' => e = .returned (.int .i64 (n * 4294967296)) ∧ Below w.heap.size w w'))
    (C1 : Aside0 (∀ w, Calls Tryd.prog 18 #[.int .i64 f, .int .i64 2977044472] w fun e w' => e = .returned (.int .i64 m1) ∧ Below w.heap.size w w'))
    (C2 : Aside0 (∀ w, Calls Tryd.prog 18 #[.int .i64 f, .int .i64 f] w fun e w' => e = .returned (.int .i64 f2) ∧ Below w.heap.size w w'))
    (C3 : Aside0 (∀ w, Calls Tryd.prog 18 #[.int .i64 f2, .int .i64 1031764991] w fun e w' => e = .returned (.int .i64 m2) ∧ Below w.heap.size w w'))
    (C4 : Aside0 (∀ w, Calls Tryd.prog 18 #[.int .i64 f2, .int .i64 f] w fun e w' => e = .returned (.int .i64 f3) ∧ Below w.heap.size w w'))
    (C5 : Aside0 (∀ w, Calls Tryd.prog 18 #[.int .i64 f3, .int .i64 206353000] w fun e w' => e = .returned (.int .i64 m3) ∧ Below w.heap.size w w'))
    (CH : Aside0 (∀ w, Calls Tryd.prog 23 #[.int .i64 (4294967296 - m1 + m2 - m3), .int .i64 n] w fun e w' => e = .returned (.int .i64 V) ∧ Below w.heap.size w w')) :
    Calls Tryd.prog 10 #[.int .i64 x] w fun e w' => e = .returned (.int .i64 V) ∧ Below w.heap.size w w' := by
  have q1 := hm1.1
  have q2 := hm1.2
  have q3 := hm2.1
  have q4 := hm2.2
  have q5 := hm3.1
  have q6 := hm3.2
  have r1 : decide (x ≤ 0) = false := by simp; omega
  have r2 : decide (94489280512 ≤ x) = false := by simp; omega
  obtain ⟨n32, hn32⟩ : ∃ m, m = n * 4294967296 := ⟨_, rfl⟩
  rw [← hn32] at CN
  have hfn : f = y - n32 := by omega
  have b1 : -4294967296 ≤ n32 := by omega
  have b2 : n32 ≤ 136319216419 := by omega
  have HFN := Aside0.mk hfn
  clear hn hm1 hm2 hm3 hn32 hfn
  go_enter Tryd.func10, Tryd.ntmps10
  have B0 : Aside0 (Below w.heap.size w w) := ⟨Below.refl _ _⟩
  go_wp2_with fail
  refine (CO.out _).mono ?_
  rintro e v1 ⟨rfl, hb⟩
  have B1 := Aside0.mk (B0.out.trans (hb.mono B0.out.size))
  clear hb
  go_wp2_with fail
  refine (CY.out _).mono ?_
  rintro e v2 ⟨rfl, hb⟩
  have B2 := Aside0.mk (B1.out.trans (hb.mono B1.out.size))
  clear hb
  go_wp2_with fail
  refine (CI.out _).mono ?_
  rintro e v3 ⟨rfl, hb⟩
  have B3 := Aside0.mk (B2.out.trans (hb.mono B2.out.size))
  clear hb
  go_wp2_with fail
  refine (CN.out _).mono ?_
  rintro e v4 ⟨rfl, hb⟩
  have B4 := Aside0.mk (B3.out.trans (hb.mono B3.out.size))
  clear hb
  go_wp2_with fail
  rw [← HFN.out]
  refine (C1.out _).mono ?_
  rintro e v5 ⟨rfl, hb⟩
  have B5 := Aside0.mk (B4.out.trans (hb.mono B4.out.size))
  clear hb
  go_wp2_with fail
  refine (C2.out _).mono ?_
  rintro e v6 ⟨rfl, hb⟩
  have B6 := Aside0.mk (B5.out.trans (hb.mono B5.out.size))
  clear hb
  go_wp2_with fail
  refine (C3.out _).mono ?_
  rintro e v7 ⟨rfl, hb⟩
  have B7 := Aside0.mk (B6.out.trans (hb.mono B6.out.size))
  clear hb
  go_wp2_with fail
  refine (C2.out _).mono ?_
  rintro e v8 ⟨rfl, hb⟩
  have B8 := Aside0.mk (B7.out.trans (hb.mono B7.out.size))
  clear hb
  go_wp2_with fail
  refine (C4.out _).mono ?_
  rintro e v9 ⟨rfl, hb⟩
  have B9 := Aside0.mk (B8.out.trans (hb.mono B8.out.size))
  clear hb
  go_wp2_with fail
  refine (C5.out _).mono ?_
  rintro e v10 ⟨rfl, hb⟩
  have B10 := Aside0.mk (B9.out.trans (hb.mono B9.out.size))
  clear hb
  go_wp2_with fail
  refine (CH.out _).mono ?_
  rintro e v11 ⟨rfl, hb⟩
  have B11 := Aside0.mk (B10.out.trans (hb.mono B10.out.size))
  clear hb
  go_wp2_with fail
  go_ret
  exact ⟨rfl, B11.out⟩
theorem rfade_low (x : Int) (hx : x ≤ 0) (w : World) : Calls Tryd.prog 10 #[.int .i64 x] w fun e w' => e = .returned (.int .i64 4294967296) ∧ w' = w := by
  go_enter Tryd.func10, Tryd.ntmps10
  go_wp2_with fail
  go_ret
  exact ⟨rfl, rfl⟩
theorem rfade_high (x : Int) (hx : 94489280512 ≤ x) (w : World) : Calls Tryd.prog 10 #[.int .i64 x] w fun e w' => e = .returned (.int .i64 0) ∧ Below w.heap.size w w' := by
  have C := Aside0.mk (fun w => rof_any 22 (by decide) w)
  rw [show hold (22 * 4294967296) = 94489280512 by decide] at C
  have r1 : decide (x ≤ 0) = false := by simp; omega
  have r2 : decide (94489280512 ≤ x) = true := by simp; omega
  go_enter Tryd.func10, Tryd.ntmps10
  go_wp2_with fail
  refine (C.out _).mono ?_
  rintro e w1 ⟨rfl, hb⟩
  go_wp2_with fail
  go_ret
  exact ⟨rfl, hb⟩
theorem rfade_any (x : Int) (w : World) (hx : I64 x) : Calls Tryd.prog 10 #[.int .i64 x] w fun e w' => e = .returned (.int .i64 (fadeI x)) ∧ Below w.heap.size w w' := by
  by_cases h0 : x ≤ 0
  · rw [show fadeI x = 4294967296 by unfold fadeI; rw [if_pos h0]]
    refine (rfade_low x h0 w).mono ?_
    rintro e w' ⟨he, rfl⟩
    exact ⟨he, Below.refl _ _⟩
  · by_cases h1 : 94489280512 ≤ x
    · rw [show fadeI x = 0 by unfold fadeI; rw [if_neg h0, if_pos h1]]
      exact rfade_high x h1 w
    · obtain ⟨y, n, f, m1, f2, m2, f3, m3, f4, p1, p2, p3, p4, p5, p6, p7, p8, i1, i2, i3, i4, i5, i6, e1, e2, e3, e4, e5, e6, e7, e8, e9, e10⟩ := fade_way x (by omega) (by omega)
      exact rfade_mid x y n f m1 f2 m2 f3 m3 _ w (by omega) (by omega) p1 p2 p3 p4 p5 p6 p7 p8 ⟨fun w => by have := rof_any 22 (by decide) w; rw [show hold (22 * 4294967296) = 94489280512 by decide] at this; exact this⟩ ⟨fun w => e1 ▸ rmul3_any x 6196328019 hx (by decide) w⟩ ⟨fun w => e2 ▸ rint_any y i4 w⟩ ⟨fun w => by have := rof_any n i5 w; rw [e3] at this; exact this⟩ ⟨fun w => e4 ▸ rmul3_any f 2977044472 i1 (by decide) w⟩ ⟨fun w => e5 ▸ rmul3_any f f i1 i1 w⟩ ⟨fun w => e6 ▸ rmul3_any f2 1031764991 i2 (by decide) w⟩ ⟨fun w => e7 ▸ rmul3_any f2 f i2 i1 w⟩ ⟨fun w => e8 ▸ rmul3_any f3 206353000 i3 (by decide) w⟩ ⟨fun w => by have := rhalf_any _ n i6 i5 w; rw [e10] at this; exact this⟩
set_option maxHeartbeats 1000000 in
theorem does_true (x y : Int) (w : World) (hx : I64 x) (hy : I64 y) : Calls Tryd.prog 5 #[.int .i64 x, .int .i64 y] w fun e w' => e = .returned (.bool true) ∧ Below w.heap.size w w' := by
  have C1 := Aside0.mk (fun w => fof_any x hx w)
  have C2 := Aside0.mk (fun w => rof_any x hx w)
  have C3 := Aside0.mk (fun w => fint_any x hx w)
  have C4 := Aside0.mk (fun w => rint_any x hx w)
  have C5 := Aside0.mk (fun w => fmul_any x y hx hy w)
  have C6 := Aside0.mk (fun w => rmul3_any x y hx hy w)
  have C7 := Aside0.mk (fun w => fdiv_any x y hx hy w)
  have C8 := Aside0.mk (fun w => rdiv3_any x y hx hy w)
  clear hx hy
  generalize hold (x * 4294967296) = V1 at *
  generalize mdo x 1 4294967296 1 = V2 at *
  generalize mdo x y 4294967296 2 = V3 at *
  generalize mdo x 4294967296 y 2 = V4 at *
  go_enter Tryd.func5, Tryd.ntmps5
  have B0 : Aside0 (Below w.heap.size w w) := ⟨Below.refl _ _⟩
  go_wp2_with fail
  refine (C1.out _).mono ?_
  rintro e v1 ⟨rfl, hb⟩
  have B1 := Aside0.mk (B0.out.trans (hb.mono B0.out.size))
  clear hb
  go_wp2_with fail
  refine (C2.out _).mono ?_
  rintro e v2 ⟨rfl, hb⟩
  have B2 := Aside0.mk (B1.out.trans (hb.mono B1.out.size))
  clear hb
  go_wp2_with fail
  refine (C3.out _).mono ?_
  rintro e v3 ⟨rfl, hb⟩
  have B3 := Aside0.mk (B2.out.trans (hb.mono B2.out.size))
  clear hb
  go_wp2_with fail
  refine (C4.out _).mono ?_
  rintro e v4 ⟨rfl, hb⟩
  have B4 := Aside0.mk (B3.out.trans (hb.mono B3.out.size))
  clear hb
  go_wp2_with fail
  refine (C5.out _).mono ?_
  rintro e v5 ⟨rfl, hb⟩
  have B5 := Aside0.mk (B4.out.trans (hb.mono B4.out.size))
  clear hb
  go_wp2_with fail
  refine (C6.out _).mono ?_
  rintro e v6 ⟨rfl, hb⟩
  have B6 := Aside0.mk (B5.out.trans (hb.mono B5.out.size))
  clear hb
  go_wp2_with fail
  refine (C7.out _).mono ?_
  rintro e v7 ⟨rfl, hb⟩
  have B7 := Aside0.mk (B6.out.trans (hb.mono B6.out.size))
  clear hb
  go_wp2_with fail
  refine (C8.out _).mono ?_
  rintro e v8 ⟨rfl, hb⟩
  have B8 := Aside0.mk (B7.out.trans (hb.mono B7.out.size))
  clear hb
  go_wp2_with fail
  refine (wakes_any _).mono ?_
  rintro e v9 ⟨rfl, hb⟩
  have B9 := Aside0.mk (B8.out.trans (hb.mono B8.out.size))
  clear hb
  go_wp2_with fail
  go_ret
  exact ⟨rfl, B9.out⟩
set_option maxHeartbeats 1000000 in
theorem mixes_true (x y z n : Int) (w : World) (hx : I64 x) (hy : I64 y) (hz : I64 z) (hn : I64 n) : Calls Tryd.prog 6 #[.agg #[.int .i64 x, .int .i64 y, .int .i64 z], .int .i64 n] w fun e w' => e = .returned (.bool true) ∧ Below w.heap.size w w' := by
  have C1 := Aside0.mk (fun w => mix_any x y z hx hy hz w)
  have C2 := Aside0.mk (fun w => rmix_any x y z hx hy hz w)
  have C3 := Aside0.mk (fun w => half_any x n hx hn w)
  have C4 := Aside0.mk (fun w => rhalf_any x n hx hn w)
  rw [show (if n < 0 then x else if 62 < n then x / 2 ^ 63 else x / 2 ^ n.toNat) = halfI x n from rfl] at C3
  generalize mixI x y z = V1 at *
  generalize halfI x n = V2 at *
  clear hx hy hz hn
  go_enter Tryd.func6, Tryd.ntmps6
  go_wp2_with fail
  have E0 := blk_new w (.cells #[.int .i64 x, .int .i64 y, .int .i64 z] 30)
  have x0 := blk_cell E0 0
  have x1 := blk_cell E0 1
  have x2 := blk_cell E0 2
  simp only [List.getElem?_toArray, List.getElem?_cons_zero, List.getElem?_cons_succ] at x0 x1 x2
  clear E0
  go_wp2_with fail
  go_quiet (fail)
  have B0 : Aside0 (Below w.heap.size w ((w.alloc (.cells #[.int .i64 x, .int .i64 y, .int .i64 z] 30)).drewN nq)) := ⟨pw_below_drewN ((Below.refl _ _).alloc (Nat.le_refl _) _) nq⟩
  generalize (w.alloc (.cells #[.int .i64 x, .int .i64 y, .int .i64 z] 30)).drewN nq = w0 at *
  clear x0 x1 x2
  go_wp2_with fail
  refine (C1.out _).mono ?_
  rintro e v1 ⟨rfl, hb⟩
  have B1 := Aside0.mk (B0.out.trans (hb.mono B0.out.size))
  clear hb
  go_wp2_with fail
  refine (C2.out _).mono ?_
  rintro e v2 ⟨rfl, hb⟩
  have B2 := Aside0.mk (B1.out.trans (hb.mono B1.out.size))
  clear hb
  go_wp2_with fail
  refine (C3.out _).mono ?_
  rintro e v3 ⟨rfl, rfl⟩
  go_wp2_with fail
  refine (C4.out _).mono ?_
  rintro e v4 ⟨rfl, hb⟩
  have B4 := Aside0.mk (B2.out.trans (hb.mono B2.out.size))
  clear hb
  go_wp2_with fail
  refine (wakes_any _).mono ?_
  rintro e v5 ⟨rfl, hb⟩
  have B5 := Aside0.mk (B4.out.trans (hb.mono B4.out.size))
  clear hb
  go_wp2_with fail
  go_ret
  exact ⟨rfl, B5.out⟩
set_option maxHeartbeats 1000000 in
theorem fades_true (x : Int) (w : World) (hG : Factors w) (hx : I64 x) : Calls Tryd.prog 3 #[.int .i64 x] w fun e w' => e = .returned (.bool true) ∧ Below w.heap.size w w' := by
  have hr := fade_range x
  have C1 := Aside0.mk (fun w => fun h => fade_any x w hx h)
  have C2 := Aside0.mk (fun w => rfade_any x w hx)
  generalize fadeI x = V at *
  have k1 : decide (0 ≤ V) = true := by simp; omega
  have k2 : decide (V ≤ 4294967296) = true := by simp; omega
  have HG := Aside0.mk hG
  clear hx hr hG
  go_enter Tryd.func3, Tryd.ntmps3
  have B0 : Aside0 (Below w.heap.size w w) := ⟨Below.refl _ _⟩
  go_wp2_with fail
  refine (C1.out _ HG.out).mono ?_
  rintro e v1 ⟨rfl, hb⟩
  have B1 := Aside0.mk (B0.out.trans (hb.mono B0.out.size))
  clear hb
  go_wp2_with fail
  refine (C2.out _).mono ?_
  rintro e v2 ⟨rfl, hb⟩
  have B2 := Aside0.mk (B1.out.trans (hb.mono B1.out.size))
  clear hb
  go_wp2_with fail
  refine (wakes_any _).mono ?_
  rintro e v3 ⟨rfl, hb⟩
  have B3 := Aside0.mk (B2.out.trans (hb.mono B2.out.size))
  clear hb
  go_wp2_with fail
  go_ret
  exact ⟨rfl, B3.out⟩
end Go.Proofs.YthkjfcjmjhplaaaDoor.B
