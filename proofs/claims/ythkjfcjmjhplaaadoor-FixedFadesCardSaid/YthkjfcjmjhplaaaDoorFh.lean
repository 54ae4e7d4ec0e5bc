/-
  Numbers with 32 bits behind the point: mixed, halved. Walks over the program.
-/
import Derived.Test.YthkjfcjmjhplaaaDoorFp
import Derived.Test.YthkjfcjmjhplaaaDoorRw
namespace Go.Proofs.YthkjfcjmjhplaaaDoor.B
open Go.RowKit Go.Proofs.YthkjfcjmjhplaaaDoorW.PrintWords Go.Proofs.YthkjfcjmjhplaaaDoorW.PrintLast Go.Proofs.YthkjfcjmjhplaaaDoorW.PrintMore
set_option linter.unusedVariables false
set_option linter.unusedSimpArgs false
def mixI (x y w : Int) : Int := hold (x + mdo (hold (y - x)) w 4294967296 2)
theorem mix_any (x y w : Int) (hx : I64 x) (hy : I64 y) (hw : I64 w) (wd : World) : Calls Tryd.prog 21 #[.int .i64 x, .int .i64 y, .int .i64 w] wd fun e w' => e = .returned (.int .i64 (mixI x y w)) ∧ Below wd.heap.size wd w' := by
  unfold mixI
  have H1 := Aside0.mk (fun w' => sub_any y x hy hx w')
  have H2 := Aside0.mk (fun w' => fmul_any (hold (y - x)) w (hold_i64 _) hw w')
  have H3 := Aside0.mk (fun w' => add_any x (mdo (hold (y - x)) w 4294967296 2) hx (mdo_range _ _ _ _) w')
  clear hx hy hw
  generalize hold (x + mdo (hold (y - x)) w 4294967296 2) = V3 at *
  generalize mdo (hold (y - x)) w 4294967296 2 = V2 at *
  generalize hold (y - x) = V1 at *
  go_enter Tryd.func21, Tryd.ntmps21
  go_wp2_with fail
  refine (H1.out _).mono ?_
  rintro e w1 ⟨rfl, hb1⟩
  go_wp2_with fail
  refine (H2.out _).mono ?_
  rintro e w2 ⟨rfl, hb2⟩
  go_wp2_with fail
  refine (H3.out _).mono ?_
  rintro e w3 ⟨rfl, hb3⟩
  go_wp2_with fail
  go_ret
  exact ⟨rfl, hb1.trans ((hb2.trans (hb3.mono hb2.size)).mono hb1.size)⟩
theorem half_any (x n : Int) (hx : I64 x) (hn : I64 n) (wd : World) : Calls Tryd.prog 12 #[.int .i64 x, .int .i64 n] wd fun e w' => e = .returned (.int .i64 (if n < 0 then x else if 62 < n then x / 2 ^ 63 else x / 2 ^ n.toNat)) ∧ w' = wd := by
  by_cases h1 : n < 0
  · rw [if_pos h1]
    go_enter Tryd.func12, Tryd.ntmps12
    go_wp2_with fail
    go_ret
    exact ⟨rfl, rfl⟩
  · rw [if_neg h1]
    by_cases h2 : 62 < n
    · rw [if_pos h2]
      go_enter Tryd.func12, Tryd.ntmps12
      go_wp2_with fail
      go_ret
      exact ⟨rfl, rfl⟩
    · rw [if_neg h2]
      go_enter Tryd.func12, Tryd.ntmps12
      go_wp2_with fail
      go_ret
      exact ⟨rfl, rfl⟩
def halfI (x n : Int) : Int := if n < 0 then x else if 62 < n then x / 2 ^ 63 else x / 2 ^ n.toNat
theorem half_run (x n V : Int) (hx : I64 x) (hn : I64 n) (hV : halfI x n = V) (wd : World) : Calls Tryd.prog 12 #[.int .i64 x, .int .i64 n] wd fun e w' => e = .returned (.int .i64 V) ∧ w' = wd := by
  subst hV
  exact half_any x n hx hn wd
theorem fade_low (x : Int) (hx : x ≤ 0) (w : World) : Calls Tryd.prog 9 #[.int .i64 x] w fun e w' => e = .returned (.int .i64 4294967296) ∧ w' = w := by
  go_enter Tryd.func9, Tryd.ntmps9
  go_wp2_with fail
  go_ret
  exact ⟨rfl, rfl⟩
theorem wakes_any (w : World) : Calls Tryd.prog 11 #[] w fun e w' => e = .returned (.bool true) ∧ Below w.heap.size w w' := by
  have C1 := Aside0.mk (fun w => fof_any 3 (by decide) w)
  have C2 := Aside0.mk (fun w => fint_any (-1) (by decide) w)
  have C3 := Aside0.mk (fun w => fmul_any 2147483648 2147483648 (by decide) (by decide) w)
  have C4 := Aside0.mk (fun w => half_run 8 2 2 (by decide) (by decide) (by decide) w)
  rw [show hold (3 * 4294967296) = 12884901888 by decide] at C1
  rw [show mdo (-1) 1 4294967296 1 = -1 by decide +kernel] at C2
  rw [show mdo 2147483648 2147483648 4294967296 2 = 1073741824 by decide +kernel] at C3
  go_enter Tryd.func11, Tryd.ntmps11
  go_wp2_with fail
  refine (C1.out _).mono ?_
  rintro e w1 ⟨rfl, hb1⟩
  go_wp2_with fail
  refine (C2.out _).mono ?_
  rintro e w2 ⟨rfl, hb2⟩
  go_wp2_with fail
  refine (C3.out _).mono ?_
  rintro e w3 ⟨rfl, hb3⟩
  go_wp2_with fail
  refine (fade_low 0 (by decide) _).mono ?_
  rintro e w4 ⟨rfl, rfl⟩
  go_wp2_with fail
  refine (C4.out _).mono ?_
  rintro e w4 ⟨rfl, rfl⟩
  go_wp2_with fail
  go_ret
  exact ⟨rfl, hb1.trans ((hb2.trans (hb3.mono hb2.size)).mono hb1.size)⟩
theorem tmod_lt (x : Int) : -2305843009213693952 < x.tmod 2305843009213693952 ∧ x.tmod 2305843009213693952 < 2305843009213693952 := by
  by_cases h : 0 ≤ x
  · rw [Int.tmod_eq_emod_of_nonneg h]
    omega
  · have e : x.tmod 2305843009213693952 = -((-x).tmod 2305843009213693952) := by rw [Int.neg_tmod, Int.neg_neg]
    rw [e, Int.tmod_eq_emod_of_nonneg (by omega)]
    omega
set_option maxHeartbeats 1000000 in
theorem between_walk (x y wt a b : Int) (w : World) (ha : a = x.tmod 2305843009213693952) (hb : b = y.tmod 2305843009213693952) (hx : I64 x) (hy : I64 y) (hw : U32 wt) :
    Calls Tryd.prog 7 #[.int .i64 x, .int .i64 y, .int .u32 wt] w fun e w' => e = .returned (.bool true) ∧ Below w.heap.size w w' := by
  have ba := tmod_lt x
  have bb := tmod_lt y
  rw [← ha] at ba
  rw [← hb] at bb
  have hw0 := hw.1
  have hw1 := hw.2
  have hm := mix_between a b wt ba.1 ba.2 bb.1 bb.2 hw0 hw1
  have C := Aside0.mk (fun w => mix_any a b wt (by unfold I64; omega) (by unfold I64; omega) (by unfold I64; omega) w)
  unfold mixI at C
  generalize hold (a + mdo (hold (b - a)) wt 4294967296 2) = V at *
  obtain ⟨lo, hlo⟩ : ∃ m, m = min a b := ⟨_, rfl⟩
  obtain ⟨hi, hhi⟩ : ∃ m, m = max a b := ⟨_, rfl⟩
  rw [← hlo, ← hhi] at hm
  have k1 : min a b = lo := hlo.symm
  have k2 : max a b = hi := hhi.symm
  have k3 : decide (lo ≤ V) = true := by simp; omega
  have k4 : decide (V ≤ hi) = true := by simp; omega
  have ba0 := ba.1
  have ba1 := ba.2
  have bb0 := bb.1
  have bb1 := bb.2
  have HA := Aside0.mk ha
  have HB := Aside0.mk hb
  clear hm hlo hhi ha hb ba bb hw hx hy
  go_enter Tryd.func7, Tryd.ntmps7
  go_wp2_with fail
  rw [← HA.out, ← HB.out]
  refine (C.out _).mono ?_
  rintro e w1 ⟨rfl, hb1⟩
  go_wp2_with fail
  refine (wakes_any _).mono ?_
  rintro e w2 ⟨rfl, hb2⟩
  go_wp2_with fail
  go_ret
  exact ⟨rfl, hb1.trans (hb2.mono hb1.size)⟩
theorem between_true (x y wt : Int) (w : World) (hx : I64 x) (hy : I64 y) (hw : U32 wt) :
    Calls Tryd.prog 7 #[.int .i64 x, .int .i64 y, .int .u32 wt] w fun e w' => e = .returned (.bool true) ∧ Below w.heap.size w w' := between_walk x y wt _ _ w rfl rfl hx hy hw
def I32 (a : Int) : Prop := -2147483648 ≤ a ∧ a ≤ 2147483647
theorem wf_i32 {a : Int} (h : (Lit.int .i32 a).wf = true) : I32 a := by
  simp only [Lit.wf, Bool.and_eq_true, decide_eq_true_eq] at h
  exact ⟨Int.le_trans (show (-2147483648 : Int) ≤ IntKind.i32.min by decide) h.1, Int.le_trans h.2 (show IntKind.i32.max ≤ (2147483647 : Int) by decide)⟩
set_option maxHeartbeats 1000000 in
theorem back_walk (k x y a b : Int) (w : World) (ha : a = x.tmod 2305843009213693952) (hb : b = y.tmod 2305843009213693952) (hk : I32 k) (hx : I64 x) (hy : I64 y) :
    Calls Tryd.prog 8 #[.int .i32 k, .int .i64 x, .int .i64 y] w fun e w' => e = .returned (.bool true) ∧ Below w.heap.size w w' := by
  have ba := tmod_lt x
  have bb := tmod_lt y
  rw [← ha] at ba
  rw [← hb] at bb
  have hk0 := hk.1
  have hk1 := hk.2
  have ia : I64 a := by unfold I64; omega
  have ib : I64 b := by unfold I64; omega
  have ik : I64 k := by unfold I64; omega
  have i3 : I64 (3 * k) := by unfold I64; omega
  have C1 := Aside0.mk (fun w => fof_any k ik w)
  have C2 := Aside0.mk (fun w => fint_any (hold (k * 4294967296)) (hold_i64 _) w)
  have C3 := Aside0.mk (fun w => fmul_any x 4294967296 hx (by decide) w)
  have C4 := Aside0.mk (fun w => fdiv_any x 4294967296 hx (by decide) w)
  have C5 := Aside0.mk (fun w => half_run x 0 x hx (by decide) (by simp [halfI]) w)
  have C6 := Aside0.mk (fun w => mix_any a b 0 ia ib (by decide) w)
  have C7 := Aside0.mk (fun w => mix_any a b 4294967296 ia ib (by decide) w)
  have C8 := Aside0.mk (fun w => fof_any 3 (by decide) w)
  have C9 := Aside0.mk (fun w => fmul_any (hold (k * 4294967296)) (hold (3 * 4294967296)) (hold_i64 _) (hold_i64 _) w)
  have C10 := Aside0.mk (fun w => fof_any (3 * k) i3 w)
  rw [int_of k hk0 hk1] at C2
  rw [mul_one x hx] at C3 C4
  rw [mul_of k hk0 hk1] at C9
  unfold mixI at C6 C7
  rw [mix_zero a _ ia] at C6
  rw [mix_all a b ba.1 ba.2 bb.1 bb.2] at C7
  generalize hold (k * 4294967296) = V1 at *
  generalize hold (3 * 4294967296) = V3 at *
  generalize hold (3 * k * 4294967296) = V9 at *
  have HA := Aside0.mk ha
  have HB := Aside0.mk hb
  clear ha hb ba bb hx hy hk ia ib ik i3
  go_enter Tryd.func8, Tryd.ntmps8
  go_wp2_with fail
  rw [← HA.out, ← HB.out]
  refine (C1.out _).mono ?_
  rintro e w1 ⟨rfl, hb⟩
  have B1 := Aside0.mk hb
  clear hb
  go_wp2_with fail
  refine (C2.out _).mono ?_
  rintro e w2 ⟨rfl, hb⟩
  have B2 := Aside0.mk (B1.out.trans (hb.mono B1.out.size))
  clear hb
  go_wp2_with fail
  refine (C3.out _).mono ?_
  rintro e w3 ⟨rfl, hb⟩
  have B3 := Aside0.mk (B2.out.trans (hb.mono B2.out.size))
  clear hb
  go_wp2_with fail
  refine (C4.out _).mono ?_
  rintro e w4 ⟨rfl, hb⟩
  have B4 := Aside0.mk (B3.out.trans (hb.mono B3.out.size))
  clear hb
  go_wp2_with fail
  refine (C5.out _).mono ?_
  rintro e w5 ⟨rfl, rfl⟩
  go_wp2_with fail
  refine (C6.out _).mono ?_
  rintro e w6 ⟨rfl, hb⟩
  have B6 := Aside0.mk (B4.out.trans (hb.mono B4.out.size))
  clear hb
  go_wp2_with fail
  refine (C7.out _).mono ?_
  rintro e w7 ⟨rfl, hb⟩
  have B7 := Aside0.mk (B6.out.trans (hb.mono B6.out.size))
  clear hb
  go_wp2_with fail
  refine (C1.out _).mono ?_
  rintro e w8 ⟨rfl, hb⟩
  have B8 := Aside0.mk (B7.out.trans (hb.mono B7.out.size))
  clear hb
  go_wp2_with fail
  refine (C8.out _).mono ?_
  rintro e w9 ⟨rfl, hb⟩
  have B9 := Aside0.mk (B8.out.trans (hb.mono B8.out.size))
  clear hb
  go_wp2_with fail
  refine (C9.out _).mono ?_
  rintro e w10 ⟨rfl, hb⟩
  have B10 := Aside0.mk (B9.out.trans (hb.mono B9.out.size))
  clear hb
  go_wp2_with fail
  refine (C10.out _).mono ?_
  rintro e w11 ⟨rfl, hb⟩
  have B11 := Aside0.mk (B10.out.trans (hb.mono B10.out.size))
  clear hb
  go_wp2_with fail
  refine (wakes_any _).mono ?_
  rintro e w12 ⟨rfl, hb⟩
  go_wp2_with fail
  go_ret
  exact ⟨rfl, B11.out.trans (hb.mono B11.out.size)⟩
theorem back_true (k x y : Int) (w : World) (hk : I32 k) (hx : I64 x) (hy : I64 y) :
    Calls Tryd.prog 8 #[.int .i32 k, .int .i64 x, .int .i64 y] w fun e w' => e = .returned (.bool true) ∧ Below w.heap.size w w' := back_walk k x y _ _ w rfl rfl hk hx hy
theorem halfI_at (x : Int) (a : Nat) (h : a ≤ 62) : halfI x (a : Int) = x / 2 ^ a := by
  unfold halfI
  rw [if_neg (by omega), if_neg (by omega), Int.toNat_natCast]
theorem half_i64 (x : Int) (a : Nat) (h : I64 x) : I64 (x / 2 ^ a) := by
  have hp : (1 : Int) ≤ 2 ^ a := Int.pow_pos (by omega)
  unfold I64 at *
  generalize (2 : Int) ^ a = p at *
  constructor
  · refine (Int.le_ediv_iff_mul_le (by omega)).2 ?_
    have := Int.mul_le_mul_of_nonpos_left (show (-9223372036854775808 : Int) ≤ 0 by omega) hp
    omega
  · refine Int.le_trans (Int.ediv_le_ediv (by omega) h.2) ?_
    exact Int.ediv_le_self _ (by omega)
set_option maxHeartbeats 2000000 in
theorem halves_walk (x y n0 n1 : Int) (a b : Nat) (w : World) (ha : (a : Int) = n0 % 31) (hb : (b : Int) = n1 % 31) (hx : I64 x) (hy : I64 y) (h0 : U8 n0) (h1 : U8 n1) :
    Calls Tryd.prog 4 #[.int .i64 x, .int .i64 y, .agg #[.int .u8 n0, .int .u8 n1]] w fun e w' => e = .returned (.bool true) ∧ Below w.heap.size w w' := by
  have ha1 : a ≤ 30 := by omega
  have hb1 : b ≤ 30 := by omega
  have e1 := halfI_at x a (by omega)
  have e2 := halfI_at (x / 2 ^ a) b (by omega)
  have e3 := halfI_at x (a + b) (by omega)
  have e4 := halfI_at y a (by omega)
  rw [half_half] at e2
  have hmono : x ≤ y → x / 2 ^ a ≤ y / 2 ^ a := half_mono x y a
  have ix := half_i64 x a hx
  have e5 : halfI x (-1 - (a : Int)) = x := by unfold halfI; rw [if_pos (by omega)]
  have C1 := Aside0.mk (fun w => half_run x (a : Int) _ hx (by unfold I64; omega) e1 w)
  have C2 := Aside0.mk (fun w => half_run (x / 2 ^ a) (b : Int) _ ix (by unfold I64; omega) e2 w)
  have C3 := Aside0.mk (fun w => half_run x ((a + b : Nat) : Int) _ hx (by unfold I64; omega) e3 w)
  have C4 := Aside0.mk (fun w => half_run y (a : Int) _ hy (by unfold I64; omega) e4 w)
  have C5 := Aside0.mk (fun w => half_run x (-1 - (a : Int)) _ hx (by unfold I64; omega) e5 w)
  rw [Int.natCast_add] at C3
  generalize x / 2 ^ (a + b) = V2 at *
  generalize x / 2 ^ a = V1 at *
  generalize y / 2 ^ a = V4 at *
  have HA := Aside0.mk ha
  have HB := Aside0.mk hb
  have HM := Aside0.mk hmono
  have q0 := h0.1
  have q1 := h0.2
  have q2 := h1.1
  have q3 := h1.2
  clear e1 e2 e3 e4 e5 ix hmono ha hb h0 h1 hx hy
  go_enter Tryd.func4, Tryd.ntmps4
  go_wp2_with fail
  have E0 := blk_new w (.cells #[.int .u8 n0, .int .u8 n1] 25)
  have x0 := blk_cell E0 0
  have x1 := blk_cell E0 1
  simp only [List.getElem?_toArray, List.getElem?_cons_zero, List.getElem?_cons_succ] at x0 x1
  clear E0
  go_wp2_with fail
  go_quiet (fail)
  have HB0 : Aside0 (Below w.heap.size w ((w.alloc (.cells #[.int .u8 n0, .int .u8 n1] 25)).drewN nq)) := ⟨pw_below_drewN ((Below.refl _ _).alloc (Nat.le_refl _) _) nq⟩
  generalize (w.alloc (.cells #[.int .u8 n0, .int .u8 n1] 25)).drewN nq = w0 at *
  clear x0 x1
  rw [← HA.out, ← HB.out]
  by_cases hxy : y < x
  · have k1 : decide (y < x) = true := decide_eq_true hxy
    go_wp2_with fail
    refine (C1.out _).mono ?_
    rintro e w1 ⟨rfl, rfl⟩
    go_wp2_with fail
    refine (C2.out _).mono ?_
    rintro e w1 ⟨rfl, rfl⟩
    go_wp2_with fail
    refine (C3.out _).mono ?_
    rintro e w1 ⟨rfl, rfl⟩
    go_wp2_with fail
    refine (C5.out _).mono ?_
    rintro e w1 ⟨rfl, rfl⟩
    go_wp2_with fail
    refine (wakes_any _).mono ?_
    rintro e w2 ⟨rfl, hb2⟩
    go_wp2_with fail
    go_ret
    exact ⟨rfl, HB0.out.trans (hb2.mono HB0.out.size)⟩
  · have k1 : decide (y < x) = false := decide_eq_false hxy
    have k2 : decide (V1 ≤ V4) = true := decide_eq_true (HM.out (by omega))
    go_wp2_with fail
    refine (C1.out _).mono ?_
    rintro e w1 ⟨rfl, rfl⟩
    go_wp2_with fail
    refine (C2.out _).mono ?_
    rintro e w1 ⟨rfl, rfl⟩
    go_wp2_with fail
    refine (C3.out _).mono ?_
    rintro e w1 ⟨rfl, rfl⟩
    go_wp2_with fail
    refine (C1.out _).mono ?_
    rintro e w1 ⟨rfl, rfl⟩
    go_wp2_with fail
    refine (C4.out _).mono ?_
    rintro e w1 ⟨rfl, rfl⟩
    go_wp2_with fail
    refine (C5.out _).mono ?_
    rintro e w1 ⟨rfl, rfl⟩
    go_wp2_with fail
    refine (wakes_any _).mono ?_
    rintro e w2 ⟨rfl, hb2⟩
    go_wp2_with fail
    go_ret
    exact ⟨rfl, HB0.out.trans (hb2.mono HB0.out.size)⟩
theorem halves_true (x y n0 n1 : Int) (w : World) (hx : I64 x) (hy : I64 y) (h0 : U8 n0) (h1 : U8 n1) :
    Calls Tryd.prog 4 #[.int .i64 x, .int .i64 y, .agg #[.int .u8 n0, .int .u8 n1]] w fun e w' => e = .returned (.bool true) ∧ Below w.heap.size w w' := by
  have q0 := h0.1
  have q2 := h1.1
  exact halves_walk x y n0 n1 (n0 % 31).toNat (n1 % 31).toNat w (by omega) (by omega) hx hy h0 h1
end Go.Proofs.YthkjfcjmjhplaaaDoor.B
