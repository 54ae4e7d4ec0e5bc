-- Printed by a program of this session's (myprint.py) for this claim.
import Derived.Test.YtnllbldfganfgaaPNackEncodesx0
namespace Go.Proofs.Ytnllbldfganfgaa.PNackEncodes
open Go.RowKit Go.Proofs.YtnllbldfganfgaaW.PrintWords Go.Proofs.YtnllbldfganfgaaW.PrintLast Go.Proofs.YtnllbldfganfgaaW.PrintMore
attribute [local go_sem] max2_int min2_int max_two min_two max_three min_three max_four min_four   -- for this text's walks alone
set_option linter.unusedVariables false
set_option linter.unusedSimpArgs false

/-! ### flywheellaw11_few: function 9 -/
def flywheellaw11_few.f (a0_0 : Int) (a0_1 : Int) (l0_2 : List Int) : Option (Int × Int × List Int) := (some (([] : List Int) : List Int)).bind fun y126 => (if y126.length + l0_2.length < 17592186044416 then (some (a0_0, a0_1, (y126 ++ l0_2))) else (none))
set_option maxHeartbeats 8000000 in
set_option maxRecDepth 100000 in
theorem flywheellaw11_few.calls (a0_0 : Int) (a0_1 : Int) (A0_2 : Option Addr) (c0_2 : Nat) (l0_2 : List Int) (r1 : Int) (r2 : Int) (r3 : List Int) (w : World) (hr0_2 : Kd.C (Kd.int .i64) w A0_2 l0_2.length l0_2) (hc0_2 : l0_2.length ≤ c0_2) (h : flywheellaw11_few.f a0_0 a0_1 l0_2 = some (r1, r2, r3)) :
    Calls Try.prog 9 #[.agg #[.int .u32 a0_0, .int .u32 a0_1, .slice A0_2 l0_2.length c0_2]] w fun e w' => ∃ v2_ : Value, e = .returned (.agg #[.int .u32 r1, .int .u32 r2, v2_]) ∧ Kd.R (Kd.int .i64) 3 w' w.heap.size (fun _ => True) v2_ r3 ∧ Below w.heap.size w w' := by
  have hu25 := Try.underlying25
  have HR0_2 := Aside0.mk hr0_2
  have HC0_2 := Aside0.mk hc0_2
  clear hr0_2 hc0_2
  have HB := Aside0.mk (Below.refl w.heap.size w)
  have H : ((some (([] : List Int) : List Int)).bind fun y126 => (if y126.length + l0_2.length < 17592186044416 then (some (a0_0, a0_1, (y126 ++ l0_2))) else (none))) = some (r1, r2, r3) := h
  clear h
  obtain ⟨y126, hy126⟩ : ∃ y_ : List Int, y_ = (([] : List Int)) := ⟨_, rfl⟩
  replace H : (if y126.length + l0_2.length < 17592186044416 then (some (a0_0, a0_1, (y126 ++ l0_2))) else (none)) = some (r1, r2, r3) := by first | (rw [hy126]; with_reducible exact H) | (have H2_ := (Option.bind_some _ _).symm.trans H; rw [hy126]; with_reducible exact H2_) | (have H2_ := (Option.bind_some _ _).symm.trans H; with_reducible exact H2_) | with_reducible exact H | (rw [hy126]; exact H) | exact H
  have Ny126 := Aside0.mk hy126
  clear hy126
  by_cases c2 : y126.length + l0_2.length < 17592186044416
  · rw [if_pos c2] at H
    have LMc2 := Aside0.mk c2
    clear c2
    obtain ⟨y129, hy129⟩ : ∃ y_ : List Int, y_ = (y126 ++ l0_2) := ⟨_, rfl⟩
    replace H : (some (a0_0, a0_1, y129)) = some (r1, r2, r3) := by first | (rw [hy129]; with_reducible exact H) | (have H2_ := (Option.bind_some _ _).symm.trans H; rw [hy129]; with_reducible exact H2_) | (have H2_ := (Option.bind_some _ _).symm.trans H; with_reducible exact H2_) | with_reducible exact H | (rw [hy129]; exact H) | exact H
    have Ny129 := Aside0.mk hy129
    clear hy129
    simp only [Option.some.injEq, Prod.mk.injEq] at H
    obtain ⟨rfl, rfl, rfl⟩ := H
    go_enter Try.func9, Try.ntmps9
    go_wp2_with (first | ((with_reducible refine gate_dst (N := 1) rfl ?_); refine box_event ?hg (N := 1) ?hd (cs := #[.int .u32 a0_0, .int .u32 a0_1, .slice A0_2 l0_2.length c0_2]) (t := 25) ?hr ?_; (case hd => rfl); (case hg => rfl); (case hr => first | (go_simp; done) | (go_simp; rfl)); intro gb124 hg w3 hbox hb; have n0_ := Aside0.mk (below_step (by repeat (first | (with_reducible first | exact HB.out | apply below_alloc | apply pw_below_drewN | apply below_drew1) | exact HB.out)) hb); have n1_ := Aside0.mk (hbox); have n2_ := Aside0.mk ((by rw [hg]; exact (below_size (by repeat (first | (with_reducible first | exact HB.out | apply below_alloc | apply pw_below_drewN | apply below_drew1) | exact HB.out))) : w.heap.size ≤ gb124)); have n3_ := Aside0.mk ((by rw [hg]; exact (below_size (by repeat (first | (with_reducible first | exact HB.out | apply below_alloc | apply pw_below_drewN | apply below_drew1) | exact HB.out))) : w.heap.size ≤ gb124)); clear HB; have HB := n0_; have BK124 := n1_; have GW124 := n2_; have GE124 := n3_; clear n0_ n1_ n2_ n3_; clear hb hbox hg) | ((with_reducible refine gate_dst (N := 2) rfl ?_); refine box_event ?hg (N := 2) ?hd (cs := #[.int .u32 0, .int .u32 0, .slice none 0 0]) (t := 25) ?hr ?_; (case hd => rfl); (case hg => rfl); (case hr => first | (go_simp; done) | (go_simp; rfl)); intro gb125 hg w4 hbox hb; have n0_ := Aside0.mk (blk_below (g := gb124) (o := .cells #[.int .u32 a0_0, .int .u32 a0_1, .slice A0_2 l0_2.length c0_2] 25 (0, 0)) (by (with_reducible repeat (first | refine blk_drewN ?_ _ | refine blk_drew ?_ | refine blk_alloc ?_ _)); exact BK124.out) hb); have n1_ := Aside0.mk (below_step (by repeat (first | (with_reducible first | exact HB.out | apply below_alloc | apply pw_below_drewN | apply below_drew1 | refine below_set ?_ GE124.out) | exact HB.out)) hb); have n2_ := Aside0.mk (hbox); have n3_ := Aside0.mk ((by rw [hg]; exact (below_size (by repeat (first | (with_reducible first | exact HB.out | apply below_alloc | apply pw_below_drewN | apply below_drew1 | refine below_set ?_ GE124.out) | exact HB.out))) : w.heap.size ≤ gb125)); have n4_ := Aside0.mk ((by rw [hg]; exact (below_size (by repeat (first | (with_reducible first | exact HB.out | apply below_alloc | apply pw_below_drewN | apply below_drew1 | refine below_set ?_ GE124.out) | exact HB.out))) : w.heap.size ≤ gb125)); have n5_ := Aside0.mk ((by rw [hg]; exact Nat.ne_of_lt (blk_lt (g := gb124) (o := .cells #[.int .u32 a0_0, .int .u32 a0_1, .slice A0_2 l0_2.length c0_2] 25 (0, 0)) (by (with_reducible repeat (first | refine blk_drewN ?_ _ | refine blk_drew ?_ | refine blk_alloc ?_ _)); exact BK124.out)) : gb124 ≠ gb125)); have n6_ := Aside0.mk ((by rw [hg]; exact Nat.ne_of_gt (blk_lt (g := gb124) (o := .cells #[.int .u32 a0_0, .int .u32 a0_1, .slice A0_2 l0_2.length c0_2] 25 (0, 0)) (by (with_reducible repeat (first | refine blk_drewN ?_ _ | refine blk_drew ?_ | refine blk_alloc ?_ _)); exact BK124.out)) : gb125 ≠ gb124)); clear BK124; clear HB; have BK124 := n0_; have HB := n1_; have BK125 := n2_; have GW125 := n3_; have GE125 := n4_; have NB124_125 := n5_; have NB125_124 := n6_; clear n0_ n1_ n2_ n3_ n4_ n5_ n6_; clear hb hbox hg) | ((with_reducible refine gate_dst (N := 3) rfl ?_); refine Kd.R_lit (Kd.int .i64) _ 3 ?hg (N := 3) ?hd (xs := ([] : List Int)) (inner := []) (ok := fun _ => True) (okp := fun _ => True) ?hr ?hp (fun _ hk => hk) trivial (Below.refl _ _) (Nat.le_refl _) (by simp) ?_; (case hd => rfl); (case hg => rfl); (case hr => first | (go_simp; done) | (go_simp; rfl)); (case hp => exact (Reps.none _ _)); intro v127 w5 ho6 hb hg_ hnew_; clear hg_ hnew_; (first | rw [← Ny126.out] at ho6 | (simp only [Int.reduceToNat] at ho6; rw [← Ny126.out] at ho6)); have n0_ := Aside0.mk (Kd.R_lower ho6 (below_size (by repeat (first | (with_reducible first | exact HB.out | apply below_alloc | apply pw_below_drewN | apply below_drew1 | refine below_set ?_ GE124.out | refine below_set ?_ GE125.out) | exact HB.out)))); have n1_ := Aside0.mk (blk_below (g := gb124) (o := .cells #[.int .u32 a0_0, .int .u32 a0_1, .slice A0_2 l0_2.length c0_2] 25 (0, 0)) (by (with_reducible repeat (first | refine blk_drewN ?_ _ | refine blk_drew ?_ | refine blk_alloc ?_ _)); exact BK124.out) hb); have n2_ := Aside0.mk (blk_below (g := gb125) (o := .cells #[.int .u32 0, .int .u32 0, .slice none 0 0] 25 (0, 0)) (by (with_reducible repeat (first | refine blk_drewN ?_ _ | refine blk_drew ?_ | refine blk_alloc ?_ _)); exact BK125.out) hb); have n3_ := Aside0.mk (below_step (by repeat (first | (with_reducible first | exact HB.out | apply below_alloc | apply pw_below_drewN | apply below_drew1 | refine below_set ?_ GE124.out | refine below_set ?_ GE125.out) | exact HB.out)) hb); clear BK124; clear BK125; clear HB; have HO128 := n0_; have BK124 := n1_; have BK125 := n2_; have HB := n3_; clear n0_ n1_ n2_ n3_; clear hb ho6; have hnb7 := NB124_125.out; have hnc7 := NB125_124.out; have hcz8_0 : w5.cell? ⟨gb124, 0, none⟩ = some (.int .u32 a0_0) := (blk_cell BK124.out 0).trans rfl; have hcz8_1 : w5.cell? ⟨gb124, 1, none⟩ = some (.int .u32 a0_1) := (blk_cell BK124.out 1).trans rfl; have hcz8_2 : w5.cell? ⟨gb124, 2, none⟩ = some (.slice A0_2 l0_2.length c0_2) := (blk_cell BK124.out 2).trans rfl; have hfz8_0 := blk_frozen BK124.out 0; have hfz8_1 := blk_frozen BK124.out 1; have hfz8_2 := blk_frozen BK124.out 2) | ((with_reducible refine gate_builtin (b := .append) (xs := #[.tmp 3, .tmp 5]) rfl ?_); at_builtin; refine Kd.R_append_rows (Kd.int .i64) (w0 := w) w.heap.size rfl (.tmp 3) (.tmp 5) 23 3 (.int .i64 0) 8 rfl Try.underlying23 info3 rfl (by decide) (by omega) v127 y126 l0_2 _ _ _ (fun _ => True) (fun _ => False) rfl rfl ?aO ?aR (fun _ _ h => h) (fun _ h => h.elim) ?aF ?aB ?aS ?aL ?_; (case aR => repeat (first | exact (Kd.C_below HR0_2.out HB.out) | (with_reducible refine Kd.C_alloc ?_ _) | (with_reducible refine Kd.C_drewN ?_ _) | (with_reducible refine Kd.C_drew ?_))); (case aB => exact (by repeat (first | (with_reducible first | exact HB.out | apply below_alloc | apply pw_below_drewN | apply below_drew1 | refine below_set ?_ GE124.out | refine below_set ?_ GE125.out) | exact HB.out))); (case aF => exact (fun _ _ => trivial)); (case aO => exact (by (with_reducible repeat (first | apply Kd.R_alloc | apply Kd.R_drewN | apply Kd.R_drew)); exact HO128.out)); (case aS => exact (below_size (by repeat (first | (with_reducible first | exact HB.out | apply below_alloc | apply pw_below_drewN | apply below_drew1 | refine below_set ?_ GE124.out | refine below_set ?_ GE125.out) | exact HB.out)))); (case aL => have := LMc2.out; omega); intro v130 w9 ho hb hg hat; rw [← Ny129.out] at ho; have n0_ := Aside0.mk (blk_grown (g := gb124) (o := .cells #[.int .u32 a0_0, .int .u32 a0_1, .slice A0_2 l0_2.length c0_2] 25 (0, 0)) (by (with_reducible repeat (first | refine blk_drewN ?_ _ | refine blk_drew ?_ | refine blk_alloc ?_ _)); exact BK124.out) hg (Kd.R_ne HO128.out BK124.out (by decide))); have n1_ := Aside0.mk (blk_grown (g := gb125) (o := .cells #[.int .u32 0, .int .u32 0, .slice none 0 0] 25 (0, 0)) (by (with_reducible repeat (first | refine blk_drewN ?_ _ | refine blk_drew ?_ | refine blk_alloc ?_ _)); exact BK125.out) hg (Kd.R_ne HO128.out BK125.out (by decide))); have n2_ := Aside0.mk (hb); have n3_ := Aside0.mk (ho); clear BK124; clear BK125; clear HB; clear HO128; have BK124 := n0_; have BK125 := n1_; have HB := n2_; have HO131 := n3_; clear n0_ n1_ n2_ n3_; clear ho hb hg hat; obtain ⟨Ao10, co10, eo10⟩ := Kd.R_slice HO131.out; subst eo10; have hcz11_0 : w9.cell? ⟨gb124, 0, none⟩ = some (.int .u32 a0_0) := (blk_cell BK124.out 0).trans rfl; have hcz11_1 : w9.cell? ⟨gb124, 1, none⟩ = some (.int .u32 a0_1) := (blk_cell BK124.out 1).trans rfl; have hcz11_2 : w9.cell? ⟨gb124, 2, none⟩ = some (.slice A0_2 l0_2.length c0_2) := (blk_cell BK124.out 2).trans rfl; have hfz11_0 := blk_frozen BK124.out 0; have hfz11_1 := blk_frozen BK124.out 1; have hfz11_2 := blk_frozen BK124.out 2; have hcz12_0 : w9.cell? ⟨gb125, 0, none⟩ = some (.int .u32 0) := (blk_cell BK125.out 0).trans rfl; have hcz12_1 : w9.cell? ⟨gb125, 1, none⟩ = some (.int .u32 0) := (blk_cell BK125.out 1).trans rfl; have hcz12_2 : w9.cell? ⟨gb125, 2, none⟩ = some (.slice none 0 0) := (blk_cell BK125.out 2).trans rfl; have hfz12_0 := blk_frozen BK125.out 0; have hfz12_1 := blk_frozen BK125.out 1; have hfz12_2 := blk_frozen BK125.out 2))
    refine bodyPost_ret (results_cell_row rfl _ _ gb125 25 #[.int .u32 a0_0, .int .u32 a0_1, .slice Ao10 y129.length co10] (0, 0) _ rfl (by (with_reducible repeat (first | refine blk_drewN ?_ _ | refine blk_drew ?_ | refine blk_alloc ?_ _)); refine blk_put (cs := #[.int .u32 a0_0, .int .u32 a0_1, .slice none 0 0]) ?_ 2 _ rfl; (with_reducible repeat (first | refine blk_drewN ?_ _ | refine blk_drew ?_ | refine blk_alloc ?_ _)); refine blk_put (cs := #[.int .u32 a0_0, .int .u32 0, .slice none 0 0]) ?_ 1 _ rfl; (with_reducible repeat (first | refine blk_drewN ?_ _ | refine blk_drew ?_ | refine blk_alloc ?_ _)); refine blk_put (cs := #[.int .u32 0, .int .u32 0, .slice none 0 0]) ?_ 0 _ rfl; (with_reducible repeat (first | refine blk_drewN ?_ _ | refine blk_drew ?_ | refine blk_alloc ?_ _)); refine blk_far ?_ NB125_124.out _; (with_reducible repeat (first | refine blk_drewN ?_ _ | refine blk_drew ?_ | refine blk_alloc ?_ _)); exact BK125.out) Try.underlying25 rfl (by kernel_rfl)) rfl ?_
    exact ⟨_, by first | rfl | (simp [errW_none, errW_some] <;> rfl) | (simp [*, errW_none, errW_some] <;> rfl), by (with_reducible repeat (first | apply Kd.R_alloc | apply Kd.R_drewN | apply Kd.R_drew)); exact Kd.R_mono (Kd.R_far (p := ⟨gb125, 2, none⟩) (Kd.R_far (p := ⟨gb125, 1, none⟩) (Kd.R_far (p := ⟨gb125, 0, none⟩) (Kd.R_far (p := ⟨gb124, 2, none⟩) (Kd.R_types (Kd.R_types HO131.out BK124.out (by decide)) BK125.out (by decide)) (fun _ hk => hk.1.2) (.slice Ao10 y129.length co10)) (fun _ hk => hk.2) (.int .u32 a0_0)) (fun _ hk => hk.2) (.int .u32 a0_1)) (fun _ hk => hk.2) (.slice Ao10 y129.length co10)) (fun _ hk => trivial), by repeat (first | (with_reducible first | exact HB.out | apply below_alloc | apply pw_below_drewN | apply below_drew1 | refine below_set ?_ GE124.out | refine below_set ?_ GE125.out) | exact HB.out)⟩
  · rw [if_neg c2] at H
    exact absurd H (by simp)

/-! ### flywheelref05_mod: function 38 -/
def flywheelref05_mod.f (a0 : Int) (a1 : Int) : Option (Int) := if a1 = 0 then (none) else (some (Int.tmod (wrap64 ((Int.tmod a0 a1) + a1)) a1))
set_option maxHeartbeats 8000000 in
set_option maxRecDepth 100000 in
theorem flywheelref05_mod.calls (a0 : Int) (a1 : Int) (r : Int) (w : World) (h : flywheelref05_mod.f a0 a1 = some r) :
    Calls Try.prog 38 #[.int .i64 a0, .int .i64 a1] w fun e w' => e = .returned (.int .i64 r) ∧ Drawn0 w w' := by
  have H : (if a1 = 0 then (none) else (some (Int.tmod (wrap64 ((Int.tmod a0 a1) + a1)) a1))) = some r := h
  clear h
  by_cases c3 : a1 = 0
  · rw [if_pos c3] at H
    exact absurd H (by simp)
  · rw [if_neg c3] at H
    have c3b0 : (a1 == 0) = false := beq_eq_false_iff_ne.mpr c3
    have c3b1 : (a1 != 0) = true := bne_iff_ne.mpr c3
    obtain rfl := Option.some.inj H
    go_enter Try.func38, Try.ntmps38
    go_wp2
    go_ret
    exact ⟨by first | rfl | (simp; done) | (simp [*]; done), by repeat (first | exact Drawn0.refl _ | apply Drawn0.step)⟩

/-! ### flywheelref05_Cut_p: function 24 -/
def flywheelref05_Cut_p.f (a0 : Int) (a1 : Int) : Option (Int) := if a1 < 1 then (some 0) else (if a1 > 32 then (some 0) else (if 0 ≤ (IntKind.u64.wrap (a1)) then ((flywheelref05_mod.f a0 (shl .i64 1 (IntKind.u64.wrap (a1)))).bind fun t132 => (some t132)) else (none)))
set_option maxHeartbeats 8000000 in
set_option maxRecDepth 100000 in
theorem flywheelref05_Cut_p.calls (a0 : Int) (a1 : Int) (r : Int) (w : World) (h : flywheelref05_Cut_p.f a0 a1 = some r) :
    Calls Try.prog 24 #[.int .i64 a0, .int .i64 a1] w fun e w' => e = .returned (.int .i64 r) ∧ Drawn0 w w' := by
  have H : (if a1 < 1 then (some 0) else (if a1 > 32 then (some 0) else (if 0 ≤ (IntKind.u64.wrap (a1)) then ((flywheelref05_mod.f a0 (shl .i64 1 (IntKind.u64.wrap (a1)))).bind fun t132 => (some t132)) else (none)))) = some r := h
  clear h
  by_cases c3 : a1 < 1
  · rw [if_pos c3] at H
    have c3b0 : decide (a1 < 1) = true := decide_eq_true c3
    clear c3
    obtain rfl := Option.some.inj H
    go_enter Try.func24, Try.ntmps24
    go_wp2
    go_ret
    exact ⟨by first | rfl | (simp; done) | (simp [*]; done), by repeat (first | exact Drawn0.refl _ | apply Drawn0.step)⟩
  · rw [if_neg c3] at H
    have c3b0 : decide (a1 < 1) = false := decide_eq_false c3
    clear c3
    by_cases c4 : a1 > 32
    · rw [if_pos c4] at H
      have c4b0 : decide (32 < a1) = true := decide_eq_true c4
      clear c4
      obtain rfl := Option.some.inj H
      go_enter Try.func24, Try.ntmps24
      go_wp2
      go_ret
      exact ⟨by first | rfl | (simp; done) | (simp [*]; done), by repeat (first | exact Drawn0.refl _ | apply Drawn0.step)⟩
    · rw [if_neg c4] at H
      have c4b0 : decide (32 < a1) = false := decide_eq_false c4
      clear c4
      obtain ⟨ji5, hji5⟩ : ∃ j_ : Int, (IntKind.u64.wrap (a1)) = j_ := ⟨_, rfl⟩
      replace H : (if 0 ≤ (ji5) then ((flywheelref05_mod.f a0 (shl .i64 1 (ji5))).bind fun t132 => (some t132)) else (none)) = some r := by first | (rw [hji5] at H; exact H) | (simp only [hji5] at H ⊢; exact H)
      by_cases c6 : 0 ≤ (ji5)
      · rw [if_pos c6] at H
        have c6b0 := eq_true c6
        have c6b1 : decide (0 ≤ (ji5)) = true := decide_eq_true c6
        clear c6
        obtain ⟨ji7, hji7⟩ : ∃ j_ : Int, (shl .i64 1 (ji5)) = j_ := ⟨_, rfl⟩
        replace H : ((flywheelref05_mod.f a0 (ji7)).bind fun t132 => (some t132)) = some r := by first | (rw [hji7] at H; exact H) | (simp only [hji7] at H ⊢; exact H)
        have hji7_ : (IntKind.i64.wrap (1 * 2 ^ min (ji5).toNat 64)) = ji7 := hji7
        have hji7z : (ji5) ≤ 64 → (IntKind.i64.wrap (1 * 2 ^ (ji5).toNat)) = ji7 := shl_small hji7
        have hji7u : (IntKind.i64.wrap (2 ^ min (ji5).toNat 64)) = ji7 := by have h_ := hji7_; rw [Int.one_mul] at h_; exact h_
        have hji7v : (ji5) ≤ 64 → (IntKind.i64.wrap (2 ^ (ji5).toNat)) = ji7 := fun hle_ => by have h_ := hji7z hle_; rw [Int.one_mul] at h_; exact h_
        have hji7y : (wrap64 (1 * 2 ^ min (ji5).toNat 64)) = ji7 := (i64_w _).symm.trans hji7_
        have hji7x : (ji5) ≤ 64 → (wrap64 (1 * 2 ^ (ji5).toNat)) = ji7 := fun h_ => (i64_w _).symm.trans (hji7z h_)
        replace H := Option.bind_eq_some_iff.mp H
        obtain ⟨t132, A80, H⟩ := H
        replace H : (some t132) = some r := H
        have A8 := Aside0.mk A80
        clear A80
        obtain rfl := Option.some.inj H
        go_enter Try.func24, Try.ntmps24
        go_wp2_with (first | ((with_reducible refine gate_callee (f := 38) rfl ?_); refine goesL_ (some 15) rfl rfl Try.func38 (by kernel_rfl) rfl #[.int .i64 a0, .int .i64 ji7] rfl (by (try simp only [List.map_toArray, List.map_cons, List.map_nil]); first | done | (simp only [hji7]; rfl) | rfl | (simp only [List.length_drop, List.length_take]; rfl)) ?_; (with_reducible refine (flywheelref05_mod.calls a0 ji7 t132 _ A8.out).mono ?_); rintro e w' ⟨rfl, ⟨nd, rfl⟩⟩; refine ⟨_, rfl, ?_⟩))
        go_ret
        exact ⟨by first | rfl | (simp; done) | (simp only [← hji5, ← hji7] <;> (first | rfl | simp)) | (simp [*]; done), by repeat (first | exact Drawn0.refl _ | apply Drawn0.step)⟩
      · rw [if_neg c6] at H
        exact absurd H (by simp)

/-! ### flywheelref05_Cut: function 24 -/
def flywheelref05_Cut.f (a0 : Int) (a1 : Int) : Option (Int) := some (if 1 ≤ a1 ∧ a1 ≤ 32 then a0 % 2 ^ a1.toNat else 0)
theorem tmod_emod (n m : Int) (hm : 0 < m) (hm2 : m ≤ 4294967296) : Int.tmod (wrap64 (Int.tmod n m + m)) m = n % m := by
  have h1 : Int.tmod n m < m := Int.tmod_lt_of_pos n hm
  have h2 : -m < Int.tmod n m := by have := Int.tmod_lt_of_pos (-n) hm; rw [Int.neg_tmod] at this; omega
  have hw : wrap64 (Int.tmod n m + m) = Int.tmod n m + m := by unfold wrap64; omega
  rw [hw, Int.tmod_eq_emod_of_nonneg (by omega)]
  rw [Int.add_emod_right, Int.emod_def (Int.tmod n m), Int.tmod_def, Int.emod_def n m]
  have e := Int.emod_emod_of_dvd n (Int.dvd_refl m)
  have q1 : (n - m * n.tdiv m) % m = n % m := by rw [Int.sub_emod, Int.mul_emod_right, Int.sub_zero, Int.emod_emod_of_dvd n (Int.dvd_refl m)]
  rw [← Int.emod_def, ← Int.emod_def, q1]
theorem flywheelref05_Cut.told (a0 a1 : Int) : flywheelref05_Cut_p.f a0 a1 = some (if 1 ≤ a1 ∧ a1 ≤ 32 then a0 % 2 ^ a1.toNat else 0) := by
  unfold flywheelref05_Cut_p.f flywheelref05_mod.f
  by_cases h1 : a1 < 1
  · rw [if_pos h1, if_neg (by omega)]
  by_cases h2 : a1 > 32
  · rw [if_neg h1, if_pos h2, if_neg (by omega)]
  rw [if_neg h1, if_neg h2]
  have hc : 1 ≤ a1 ∧ a1 ≤ 32 := ⟨by omega, by omega⟩
  rw [if_pos hc]
  obtain ⟨k, rfl⟩ : ∃ k : Nat, a1 = k := ⟨a1.toNat, by omega⟩
  have hu : IntKind.u64.wrap (k : Int) = (k : Int) := by rw [IntKind.wrap_u64]; omega
  have hp : (2 : Nat) ^ k ≤ 2 ^ 32 := Nat.pow_le_pow_right (by omega) (by omega)
  have hp1 := Nat.two_pow_pos k
  have e2 : ((2 : Int) ^ k) = ((2 ^ k : Nat) : Int) := by rw [Int.natCast_pow]; rfl
  have e : shl .i64 1 (k : Int) = 2 ^ k := by
    unfold shl
    rw [Int.toNat_natCast, Nat.min_eq_left (show k ≤ IntKind.i64.bits from by show k ≤ 64; omega), Int.one_mul, IntKind.wrap_i64]
    rw [e2]; omega
  rw [hu, if_pos (by omega), e, if_neg (by rw [e2]; omega), Int.toNat_natCast, tmod_emod a0 _ (by rw [e2]; omega) (by rw [e2]; omega)]
  rfl
theorem flywheelref05_Cut.calls (a0 : Int) (a1 : Int) (r : Int) (w : World) (h : flywheelref05_Cut.f a0 a1 = some r) :
    Calls Try.prog 24 #[.int .i64 a0, .int .i64 a1] w fun e w' => e = .returned (.int .i64 r) ∧ Drawn0 w w' :=
  flywheelref05_Cut_p.calls a0 a1 r w ((flywheelref05_Cut.told a0 a1).trans h)

/-! ### flywheelref05_After_p: function 36 -/
def flywheelref05_After_p.f (a0 : Int) (a1 : Int) (a2 : Int) : Option (Bool) := if a2 < 1 then (some false) else (if a2 > 32 then (some false) else (if a0 < 0 then (some false) else (if a1 < 0 then (some false) else (if 0 ≤ (IntKind.u64.wrap (a2)) then (if a0 ≥ (shl .i64 1 (IntKind.u64.wrap (a2))) then (some false) else (if a1 ≥ (shl .i64 1 (IntKind.u64.wrap (a2))) then (some false) else ((flywheelref05_Cut.f (wrap64 (a0 - a1)) a2).bind fun t133 => (if t133 ≥ 1 then (if 0 ≤ (IntKind.u64.wrap (wrap64 (a2 - 1))) then (some (decide (t133 ≤ (wrap64 ((shl .i64 1 (IntKind.u64.wrap (wrap64 (a2 - 1)))) - 1))))) else (none)) else (some false))))) else (none)))))
set_option maxHeartbeats 8000000 in
set_option maxRecDepth 100000 in
theorem flywheelref05_After_p.calls (a0 : Int) (a1 : Int) (a2 : Int) (r : Bool) (w : World) (h : flywheelref05_After_p.f a0 a1 a2 = some r) :
    Calls Try.prog 36 #[.int .i64 a0, .int .i64 a1, .int .i64 a2] w fun e w' => e = .returned (.bool r) ∧ Drawn0 w w' := by
  have H : (if a2 < 1 then (some false) else (if a2 > 32 then (some false) else (if a0 < 0 then (some false) else (if a1 < 0 then (some false) else (if 0 ≤ (IntKind.u64.wrap (a2)) then (if a0 ≥ (shl .i64 1 (IntKind.u64.wrap (a2))) then (some false) else (if a1 ≥ (shl .i64 1 (IntKind.u64.wrap (a2))) then (some false) else ((flywheelref05_Cut.f (wrap64 (a0 - a1)) a2).bind fun t133 => (if t133 ≥ 1 then (if 0 ≤ (IntKind.u64.wrap (wrap64 (a2 - 1))) then (some (decide (t133 ≤ (wrap64 ((shl .i64 1 (IntKind.u64.wrap (wrap64 (a2 - 1)))) - 1))))) else (none)) else (some false))))) else (none)))))) = some r := h
  clear h
  by_cases c4 : a2 < 1
  · rw [if_pos c4] at H
    have c4b0 : decide (a2 < 1) = true := decide_eq_true c4
    clear c4
    obtain rfl := Option.some.inj H
    go_enter Try.func36, Try.ntmps36
    go_wp2
    go_ret
    exact ⟨by first | rfl | (simp; done) | (simp [*]; done), by repeat (first | exact Drawn0.refl _ | apply Drawn0.step)⟩
  · rw [if_neg c4] at H
    have c4b0 : decide (a2 < 1) = false := decide_eq_false c4
    clear c4
    by_cases c5 : a2 > 32
    · rw [if_pos c5] at H
      have c5b0 : decide (32 < a2) = true := decide_eq_true c5
      clear c5
      obtain rfl := Option.some.inj H
      go_enter Try.func36, Try.ntmps36
      go_wp2
      go_ret
      exact ⟨by first | rfl | (simp; done) | (simp [*]; done), by repeat (first | exact Drawn0.refl _ | apply Drawn0.step)⟩
    · rw [if_neg c5] at H
      have c5b0 : decide (32 < a2) = false := decide_eq_false c5
      clear c5
      by_cases c6 : a0 < 0
      · rw [if_pos c6] at H
        have c6b0 : decide (a0 < 0) = true := decide_eq_true c6
        clear c6
        obtain rfl := Option.some.inj H
        go_enter Try.func36, Try.ntmps36
        go_wp2
        go_ret
        exact ⟨by first | rfl | (simp; done) | (simp [*]; done), by repeat (first | exact Drawn0.refl _ | apply Drawn0.step)⟩
      · rw [if_neg c6] at H
        have c6b0 : decide (a0 < 0) = false := decide_eq_false c6
        clear c6
        by_cases c7 : a1 < 0
        · rw [if_pos c7] at H
          have c7b0 : decide (a1 < 0) = true := decide_eq_true c7
          clear c7
          obtain rfl := Option.some.inj H
          go_enter Try.func36, Try.ntmps36
          go_wp2
          go_ret
          exact ⟨by first | rfl | (simp; done) | (simp [*]; done), by repeat (first | exact Drawn0.refl _ | apply Drawn0.step)⟩
        · rw [if_neg c7] at H
          have c7b0 : decide (a1 < 0) = false := decide_eq_false c7
          clear c7
          obtain ⟨ji8, hji8⟩ : ∃ j_ : Int, (IntKind.u64.wrap (a2)) = j_ := ⟨_, rfl⟩
          replace H : (if 0 ≤ (ji8) then (if a0 ≥ (shl .i64 1 (ji8)) then (some false) else (if a1 ≥ (shl .i64 1 (ji8)) then (some false) else ((flywheelref05_Cut.f (wrap64 (a0 - a1)) a2).bind fun t133 => (if t133 ≥ 1 then (if 0 ≤ (IntKind.u64.wrap (wrap64 (a2 - 1))) then (some (decide (t133 ≤ (wrap64 ((shl .i64 1 (IntKind.u64.wrap (wrap64 (a2 - 1)))) - 1))))) else (none)) else (some false))))) else (none)) = some r := by first | (rw [hji8] at H; exact H) | (simp only [hji8] at H ⊢; exact H)
          by_cases c9 : 0 ≤ (ji8)
          · rw [if_pos c9] at H
            have c9b0 := eq_true c9
            have c9b1 : decide (0 ≤ (ji8)) = true := decide_eq_true c9
            clear c9
            obtain ⟨ji10, hji10⟩ : ∃ j_ : Int, (shl .i64 1 (ji8)) = j_ := ⟨_, rfl⟩
            replace H : (if a0 ≥ (ji10) then (some false) else (if a1 ≥ (ji10) then (some false) else ((flywheelref05_Cut.f (wrap64 (a0 - a1)) a2).bind fun t133 => (if t133 ≥ 1 then (if 0 ≤ (IntKind.u64.wrap (wrap64 (a2 - 1))) then (some (decide (t133 ≤ (wrap64 ((shl .i64 1 (IntKind.u64.wrap (wrap64 (a2 - 1)))) - 1))))) else (none)) else (some false))))) = some r := by first | (rw [hji10] at H; exact H) | (simp only [hji10] at H ⊢; exact H)
            have hji10_ : (IntKind.i64.wrap (1 * 2 ^ min (ji8).toNat 64)) = ji10 := hji10
            have hji10z : (ji8) ≤ 64 → (IntKind.i64.wrap (1 * 2 ^ (ji8).toNat)) = ji10 := shl_small hji10
            have hji10u : (IntKind.i64.wrap (2 ^ min (ji8).toNat 64)) = ji10 := by have h_ := hji10_; rw [Int.one_mul] at h_; exact h_
            have hji10v : (ji8) ≤ 64 → (IntKind.i64.wrap (2 ^ (ji8).toNat)) = ji10 := fun hle_ => by have h_ := hji10z hle_; rw [Int.one_mul] at h_; exact h_
            have hji10y : (wrap64 (1 * 2 ^ min (ji8).toNat 64)) = ji10 := (i64_w _).symm.trans hji10_
            have hji10x : (ji8) ≤ 64 → (wrap64 (1 * 2 ^ (ji8).toNat)) = ji10 := fun h_ => (i64_w _).symm.trans (hji10z h_)
            by_cases c11 : a0 ≥ (ji10)
            · rw [if_pos c11] at H
              have c11b0 : decide ((ji10) ≤ a0) = true := decide_eq_true c11
              clear c11
              obtain rfl := Option.some.inj H
              go_enter Try.func36, Try.ntmps36
              go_wp2
              go_ret
              exact ⟨by first | rfl | (simp; done) | (simp only [← hji8, ← hji10] <;> (first | rfl | simp)) | (simp [*]; done), by repeat (first | exact Drawn0.refl _ | apply Drawn0.step)⟩
            · rw [if_neg c11] at H
              have c11b0 : decide ((ji10) ≤ a0) = false := decide_eq_false c11
              clear c11
              have c12b0 := eq_true (of_decide_eq_true (by first | (with_reducible assumption) | assumption) : 0 ≤ (ji8))
              by_cases c13 : a1 ≥ (ji10)
              · rw [if_pos c13] at H
                have c13b0 : decide ((ji10) ≤ a1) = true := decide_eq_true c13
                clear c13
                obtain rfl := Option.some.inj H
                go_enter Try.func36, Try.ntmps36
                go_wp2
                go_ret
                exact ⟨by first | rfl | (simp; done) | (simp only [← hji8, ← hji10] <;> (first | rfl | simp)) | (simp [*]; done), by repeat (first | exact Drawn0.refl _ | apply Drawn0.step)⟩
              · rw [if_neg c13] at H
                have c13b0 : decide ((ji10) ≤ a1) = false := decide_eq_false c13
                clear c13
                replace H := Option.bind_eq_some_iff.mp H
                obtain ⟨t133, A140, H⟩ := H
                replace H : (if t133 ≥ 1 then (if 0 ≤ (IntKind.u64.wrap (wrap64 (a2 - 1))) then (some (decide (t133 ≤ (wrap64 ((shl .i64 1 (IntKind.u64.wrap (wrap64 (a2 - 1)))) - 1))))) else (none)) else (some false)) = some r := H
                have A14 := Aside0.mk A140
                clear A140
                by_cases c15 : t133 ≥ 1
                · rw [if_pos c15] at H
                  have c15b0 : decide (1 ≤ t133) = true := decide_eq_true c15
                  clear c15
                  obtain ⟨ji16, hji16⟩ : ∃ j_ : Int, (IntKind.u64.wrap (wrap64 (a2 - 1))) = j_ := ⟨_, rfl⟩
                  replace H : (if 0 ≤ (ji16) then (some (decide (t133 ≤ (wrap64 ((shl .i64 1 (ji16)) - 1))))) else (none)) = some r := by first | (rw [hji16] at H; exact H) | (simp only [hji16] at H ⊢; exact H)
                  (try rw [hji16] at A14)
                  by_cases c17 : 0 ≤ (ji16)
                  · rw [if_pos c17] at H
                    have c17b0 := eq_true c17
                    have c17b1 : decide (0 ≤ (ji16)) = true := decide_eq_true c17
                    clear c17
                    obtain ⟨ji18, hji18⟩ : ∃ j_ : Int, (shl .i64 1 (ji16)) = j_ := ⟨_, rfl⟩
                    replace H : (some (decide (t133 ≤ (wrap64 ((ji18) - 1))))) = some r := by first | (rw [hji18] at H; exact H) | (simp only [hji18] at H ⊢; exact H)
                    (try rw [hji18] at A14)
                    have hji18_ : (IntKind.i64.wrap (1 * 2 ^ min (ji16).toNat 64)) = ji18 := hji18
                    have hji18z : (ji16) ≤ 64 → (IntKind.i64.wrap (1 * 2 ^ (ji16).toNat)) = ji18 := shl_small hji18
                    have hji18u : (IntKind.i64.wrap (2 ^ min (ji16).toNat 64)) = ji18 := by have h_ := hji18_; rw [Int.one_mul] at h_; exact h_
                    have hji18v : (ji16) ≤ 64 → (IntKind.i64.wrap (2 ^ (ji16).toNat)) = ji18 := fun hle_ => by have h_ := hji18z hle_; rw [Int.one_mul] at h_; exact h_
                    have hji18y : (wrap64 (1 * 2 ^ min (ji16).toNat 64)) = ji18 := (i64_w _).symm.trans hji18_
                    have hji18x : (ji16) ≤ 64 → (wrap64 (1 * 2 ^ (ji16).toNat)) = ji18 := fun h_ => (i64_w _).symm.trans (hji18z h_)
                    obtain rfl := Option.some.inj H
                    go_enter Try.func36, Try.ntmps36
                    go_wp2_with (first | ((with_reducible refine gate_callee (f := 24) rfl ?_); refine goesL_ (some 40) rfl rfl Try.func24 (by kernel_rfl) rfl #[.int .i64 (wrap64 (a0 - a1)), .int .i64 a2] rfl (by (try simp only [List.map_toArray, List.map_cons, List.map_nil]); first | done | rfl | (simp only [List.length_drop, List.length_take]; rfl)) ?_; (with_reducible refine (flywheelref05_Cut.calls (wrap64 (a0 - a1)) a2 t133 _ A14.out).mono ?_); rintro e w' ⟨rfl, ⟨nd, rfl⟩⟩; refine ⟨_, rfl, ?_⟩))
                    go_ret
                    exact ⟨by first | rfl | (simp; done) | (simp only [← hji8, ← hji10, ← hji16, ← hji18] <;> (first | rfl | simp)) | (simp [*]; done), by repeat (first | exact Drawn0.refl _ | apply Drawn0.step)⟩
                  · rw [if_neg c17] at H
                    exact absurd H (by simp)
                · rw [if_neg c15] at H
                  have c15b0 : decide (1 ≤ t133) = false := decide_eq_false c15
                  clear c15
                  obtain rfl := Option.some.inj H
                  go_enter Try.func36, Try.ntmps36
                  go_wp2_with (first | ((with_reducible refine gate_callee (f := 24) rfl ?_); refine goesL_ (some 40) rfl rfl Try.func24 (by kernel_rfl) rfl #[.int .i64 (wrap64 (a0 - a1)), .int .i64 a2] rfl (by (try simp only [List.map_toArray, List.map_cons, List.map_nil]); first | done | rfl | (simp only [List.length_drop, List.length_take]; rfl)) ?_; (with_reducible refine (flywheelref05_Cut.calls (wrap64 (a0 - a1)) a2 t133 _ A14.out).mono ?_); rintro e w' ⟨rfl, ⟨nd, rfl⟩⟩; refine ⟨_, rfl, ?_⟩))
                  go_ret
                  exact ⟨by first | rfl | (simp; done) | (simp only [← hji8, ← hji10] <;> (first | rfl | simp)) | (simp [*]; done), by repeat (first | exact Drawn0.refl _ | apply Drawn0.step)⟩
          · rw [if_neg c9] at H
            exact absurd H (by simp)

/-! ### flywheelref05_After: function 36 -/
def flywheelref05_After.f (a0 : Int) (a1 : Int) (a2 : Int) : Option (Bool) := if a2 = 16 then (some (B.after16 a0 a1)) else (none)
theorem flywheelref05_After.told (a0 a1 : Int) : flywheelref05_After_p.f a0 a1 16 = some (B.after16 a0 a1) := by
  have hu : IntKind.u64.wrap 16 = 16 := by rw [IntKind.wrap_u64]; omega
  have hu2 : IntKind.u64.wrap (wrap64 (16 - 1)) = 15 := by rw [show wrap64 (16 - 1) = 15 from by unfold wrap64; omega, IntKind.wrap_u64]; omega
  have e : shl .i64 1 16 = 65536 := by rfl
  have e15 : wrap64 (shl .i64 1 15 - 1) = 32767 := by rw [show shl .i64 1 15 = 32768 from rfl]; unfold wrap64; omega
  unfold flywheelref05_After_p.f B.after16 flywheelref05_Cut.f
  rw [hu, hu2, e, e15]
  rw [if_neg (by omega), if_neg (by omega)]
  by_cases h1 : a0 < 0
  · have h1' : ¬ 0 ≤ a0 := by omega
    simp [h1, h1']
  have h1' : 0 ≤ a0 := by omega
  by_cases h2 : a1 < 0
  · have h2' : ¬ 0 ≤ a1 := by omega
    simp [h1, h2, h2']
  have h2' : 0 ≤ a1 := by omega
  by_cases h3 : 65536 ≤ a0
  · have h3' : ¬ a0 < 65536 := by omega
    simp [h1, h2, h3, h3']
  have h3' : a0 < 65536 := by omega
  by_cases h4 : 65536 ≤ a1
  · have h4' : ¬ a1 < 65536 := by omega
    simp [h1, h2, h3, h4, h4']
  have h4' : a1 < 65536 := by omega
  have hw : wrap64 (a0 - a1) = a0 - a1 := by unfold wrap64; omega
  rw [hw]
  by_cases h5 : (a0 - a1) % 65536 ≥ 1
  · have h5' : 1 ≤ (a0 - a1) % 65536 := h5
    have h6 : decide ((a0 - a1) % 65536 ≤ 32767) = decide ((a0 - a1) % 65536 < 32768) := by rw [decide_eq_decide]; omega
    simp [h1, h2, h3, h4, h5, h1', h2', h3', h4', h5', h6]
  · have h5' : ¬ 1 ≤ (a0 - a1) % 65536 := h5
    simp [h1, h2, h3, h4, h5, h1', h2', h3', h4', h5']
theorem flywheelref05_After.calls (a0 : Int) (a1 : Int) (a2 : Int) (r : Bool) (w : World) (h : flywheelref05_After.f a0 a1 a2 = some r) :
    Calls Try.prog 36 #[.int .i64 a0, .int .i64 a1, .int .i64 a2] w fun e w' => e = .returned (.bool r) ∧ Drawn0 w w' := by
  unfold flywheelref05_After.f at h
  by_cases h2 : a2 = 16
  · subst h2
    rw [if_pos rfl] at h
    exact flywheelref05_After_p.calls a0 a1 16 r w ((flywheelref05_After.told a0 a1).trans h)
  · rw [if_neg h2] at h; cases h

/-! ### flywheelref11_Good: function 21 -/
def flywheelref11_Good.f (l0 : List Int) : Option (Bool) := some (B.goodB l0)
theorem quietD {P : Program} {f : FuncId} {args : Array Value} {w W : World} {v : Value} (hW : ∃ n, W = w.drewN n) (h : Calls P f args W fun e w' => e = .returned v ∧ Drawn0 W w') :
    Calls P f args W fun e w'' => e = .returned v ∧ ∃ m, w'' = w.drewN m :=
  h.mono fun _ _ ⟨he, hd⟩ => ⟨he, by obtain ⟨n, rfl⟩ := hW; obtain ⟨m, hm⟩ := hd.out; exact ⟨n + m, by rw [hm, World.drewN_drewN]⟩⟩
theorem goodB_at (l : List Int) (h0 : 0 < l.length) : B.goodB l = (decide (0 ≤ rd l 0) && (decide (rd l 0 ≤ 65535) && (decide (l.length ≤ 4096) && B.goodTail (rd l 0) (rd l 0) (l.drop 1)))) := by
  cases l with
  | nil => simp at h0
  | cons n t =>
    have e : decide (t.length < 4096) = decide ((n :: t).length ≤ 4096) := by rw [decide_eq_decide]; simp; omega
    simp only [B.goodB, e]
    rfl
theorem goodTail_at (l : List Int) (i : Nat) (l0 p : Int) (h : i < l.length) : B.goodTail l0 p (l.drop i) = (B.after16 (rd l i) p && (B.after16 (rd l i) l0 && B.goodTail l0 (rd l i) (l.drop (i + 1)))) := by
  rw [List.drop_eq_getElem_cons h]
  have e : rd l (i : Int) = l[i] := by simp [rd, List.getD_eq_getElem?_getD, List.getElem?_eq_getElem h]
  rw [e]
  rfl
set_option maxHeartbeats 2000000 in
theorem flywheelref11_Good.calls (A0 : Option Addr) (c0 : Nat) (l0 : List Int) (r : Bool) (w : World) (hr0 : Kd.C (Kd.int .i64) w A0 l0.length l0) (hc0 : l0.length ≤ c0) (h : flywheelref11_Good.f l0 = some r) :
    Calls Try.prog 21 #[.slice A0 l0.length c0] w fun e w' => e = .returned (.bool r) ∧ Drawn0 w w' := by
  obtain rfl := Option.some.inj h
  have HR := Aside0.mk hr0
  clear hr0 h
  by_cases hl0 : (l0.length : Int) < 1
  · have hd : decide ((l0.length : Int) < 1) = true := decide_eq_true hl0
    have HX : Aside0 (l0 = []) := ⟨List.eq_nil_of_length_eq_zero (by omega)⟩
    clear hl0
    go_enter Try.func21, Try.ntmps21
    go_wp2
    go_ret
    rw [HX.out]
    exact ⟨rfl, Drawn0.refl _⟩
  have hd : decide ((l0.length : Int) < 1) = false := decide_eq_false hl0
  have HG := Aside0.mk (goodB_at l0 (by omega))
  by_cases hl1 : 4096 < (l0.length : Int)
  · have hd1 : decide (4096 < (l0.length : Int)) = true := decide_eq_true hl1
    have HX : Aside0 (B.goodB l0 = false) := ⟨by rw [HG.out]; simp [show ¬ l0.length ≤ 4096 by omega]⟩
    clear hl0 hl1
    go_enter Try.func21, Try.ntmps21
    go_wp2
    go_ret
    rw [HX.out]
    exact ⟨rfl, Drawn0.refl _⟩
  have hd1 : decide (4096 < (l0.length : Int)) = false := decide_eq_false hl1
  obtain ⟨ad, hA, hx0⟩ := Kd.at_int HR.out 0 (by omega) (by omega)
  subst hA
  have hx00 : w.cell? ad = some (.int .i64 (rd l0 0)) := by rw [show (0 : Int).toNat = 0 from rfl, Go.Addr.add_zero'] at hx0; exact hx0
  obtain ⟨R0, hR0⟩ : ∃ R0, rd l0 0 = R0 := ⟨_, rfl⟩
  rw [hR0] at hx0 hx00 HG
  have HR0 := Aside0.mk hR0
  have hpos : 0 < (l0.length : Int) := by omega
  have hle : (l0.length : Int) ≤ 4096 := by omega
  have hle4 : decide (l0.length ≤ 4096) = true := decide_eq_true (by omega)
  rw [hle4] at HG
  clear hR0 hl0 hl1 hle4
  by_cases c1 : R0 < 0
  · have hd2 : decide (R0 < 0) = true := decide_eq_true c1
    have HX : Aside0 (B.goodB l0 = false) := ⟨by rw [HG.out]; simp [show ¬ 0 ≤ R0 by omega]⟩
    clear c1
    go_enter Try.func21, Try.ntmps21
    go_wp2
    go_ret
    rw [HX.out]
    exact ⟨rfl, Drawn0.refl _⟩
  have hd2 : decide (R0 < 0) = false := decide_eq_false c1
  by_cases c2 : 65535 < R0
  · have hd3 : decide (65535 < R0) = true := decide_eq_true c2
    have HX : Aside0 (B.goodB l0 = false) := ⟨by rw [HG.out]; simp [show ¬ R0 ≤ 65535 by omega]⟩
    clear c1 c2
    go_enter Try.func21, Try.ntmps21
    go_wp2
    go_ret
    rw [HX.out]
    exact ⟨rfl, Drawn0.refl _⟩
  have hd3 : decide (65535 < R0) = false := decide_eq_false c2
  have hb0 : 0 ≤ R0 := by omega
  have hb1 : R0 ≤ 65535 := by omega
  have HG2 : Aside0 (B.goodB l0 = B.goodTail R0 R0 (l0.drop 1)) := ⟨by rw [HG.out]; simp [hb0, hb1]⟩
  clear HG c1 c2
  go_enter Try.func21, Try.ntmps21
  go_wp2
  go_loopw [3] (fun iv wr => ∃ i : Int, iv = .int .i64 i ∧ (1 ≤ i ∧ i ≤ l0.length) ∧ (0 ≤ rd l0 (i - 1) ∧ rd l0 (i - 1) ≤ 65535) ∧ (rd l0 (i - 1) = R0 ∧ i = 1 ∨ B.after16 (rd l0 (i - 1)) R0 = true) ∧ B.goodB l0 = B.goodTail R0 (rd l0 (i - 1)) (l0.drop i.toNat) ∧ Drawn0 w wr) (fun iv _ => (l0.length - intOf iv).toNat)
  case atStart => exact ⟨1, rfl, ⟨by omega, by omega⟩, ⟨by show 0 ≤ rd l0 0; rw [HR0.out]; omega, by show rd l0 0 ≤ _; rw [HR0.out]; omega⟩, .inl ⟨HR0.out, rfl⟩, by show _ = B.goodTail R0 (rd l0 0) _; rw [HR0.out]; exact HG2.out, Drawn0.refl _⟩
  case round =>
    obtain ⟨i, rfl, ⟨hi0, hi1⟩, ⟨hp0, hp1⟩, hz, hgd, hD⟩ := hrel
    have HGD := Aside0.mk hgd
    have HZ := Aside0.mk hz
    clear hgd hz HG2
    have hcell : ∀ a : Addr, wr.cell? a = w.cell? a := by obtain ⟨nd, rfl⟩ := hD.out; intro a; rfl
    by_cases hlt : i < l0.length
    · obtain ⟨ad1, hA1, hx1⟩ := Kd.at_int HR.out i (by omega) (by omega)
      obtain rfl : ad = ad1 := by injection hA1
      obtain ⟨ad2, hA2, hx2⟩ := Kd.at_int HR.out (i - 1) (by omega) (by omega)
      obtain rfl : ad = ad2 := by injection hA2
      have hgt := goodTail_at l0 i.toNat R0 (rd l0 (i - 1)) (by omega)
      rw [show ((i.toNat : Nat) : Int) = i by omega] at hgt
      rw [← hcell] at hx1 hx2 hx00
      clear hcell hx0
      obtain ⟨X, hX⟩ : ∃ X, rd l0 i = X := ⟨_, rfl⟩
      obtain ⟨Y, hY⟩ : ∃ Y, rd l0 (i - 1) = Y := ⟨_, rfl⟩
      rw [hX] at hgt hx1
      rw [hY] at hgt hx2 HGD HZ hp0 hp1
      have HGT := Aside0.mk hgt
      have HX := Aside0.mk hX
      clear hgt hX hY
      obtain ⟨j, hj⟩ : ∃ j, i - 1 = j := ⟨_, rfl⟩
      rw [hj] at hx2
      have hjw : IntKind.i64.wrap (i - 1) = j := by rw [IntKind.wrap_i64, ← hj]; omega
      have hj0 : 0 ≤ j := by omega
      have hj1 : j < (l0.length : Int) := by omega
      by_cases a1 : B.after16 X Y = true
      · have hXb := (B.after16_iff X Y).mp a1
        have hX0 : 0 ≤ X := hXb.1.1
        have hX1 : X < 65536 := hXb.1.2
        have HXb := Aside0.mk hXb
        have HC := Aside0.mk (show flywheelref05_After.f X Y 16 = some true from by unfold flywheelref05_After.f; rw [if_pos rfl, a1])
        have HA1 := Aside0.mk a1
        obtain ⟨Z, hZ⟩ : ∃ Z, X - R0 = Z := ⟨_, rfl⟩
        have HZZ := Aside0.mk hZ
        have hZw : IntKind.i64.wrap (X - R0) = Z := by rw [IntKind.wrap_i64, ← hZ]; omega
        have HC2 := Aside0.mk (show flywheelref05_Cut.f Z 16 = some (Z % 65536) from rfl)
        obtain ⟨D, hD'⟩ : ∃ D, Z % 65536 = D := ⟨_, rfl⟩
        rw [hD'] at HC2
        have HDD := Aside0.mk hD'
        clear a1 hj hXb hZ hD'
        by_cases c3 : 32768 ≤ D
        · have hd4 : decide (32768 ≤ D) = true := decide_eq_true c3
          have HN : Aside0 (B.after16 X R0 = false) := ⟨by rw [← Bool.not_eq_true, B.after16_iff]; have := HZZ.out; have := HDD.out; omega⟩
          go_wp2
          go_quiet ((first | (go_at_call 36; exact quietD ⟨_, rfl⟩ (flywheelref05_After.calls X Y 16 true _ HC.out)) | (go_at_call 24; exact quietD ⟨_, rfl⟩ (flywheelref05_Cut.calls Z 16 D _ HC2.out))))
          go_wp2
          go_ret
          rw [HGD.out, HGT.out, HN.out]
          exact ⟨by simp, hD.step _⟩
        · have hd4 : decide (32768 ≤ D) = false := decide_eq_false c3
          have HN : Aside0 (B.after16 X R0 = true) := ⟨by
            rw [B.after16_iff]
            have h1 := HZZ.out
            have h2 := HDD.out
            have h3 := HXb.out
            rcases HZ.out with ⟨h4, _⟩ | h4
            · omega
            · rw [B.after16_iff] at h4; omega⟩
          go_wp2
          go_quiet ((first | (go_at_call 36; exact quietD ⟨_, rfl⟩ (flywheelref05_After.calls X Y 16 true _ HC.out)) | (go_at_call 24; exact quietD ⟨_, rfl⟩ (flywheelref05_Cut.calls Z 16 D _ HC2.out))))
          go_wp2
          go_roundw
          case rel =>
            refine ⟨i + 1, rfl, ⟨by omega, by omega⟩, ?_, .inr ?_, ?_, hD.step _⟩
            · rw [show i + 1 - 1 = i by omega, HX.out]; omega
            · rw [show i + 1 - 1 = i by omega, HX.out]; exact HN.out
            · rw [HGD.out, HGT.out, HN.out, HA1.out, show i + 1 - 1 = i by omega, HX.out, show (i + 1).toNat = i.toNat + 1 by omega]; simp
          case measure => simp [intOf]; omega
      · have a1' : B.after16 X Y = false := by simpa using a1
        have HC := Aside0.mk (show flywheelref05_After.f X Y 16 = some false from by unfold flywheelref05_After.f; rw [if_pos rfl, a1'])
        have HN := Aside0.mk a1'
        clear a1 hj a1'
        go_wp2
        go_quiet ((first | (go_at_call 36; exact quietD ⟨_, rfl⟩ (flywheelref05_After.calls X Y 16 false _ HC.out))))
        go_wp2
        go_ret
        rw [HGD.out, HGT.out, HN.out]
        exact ⟨by simp, hD.step _⟩
    · have HE : Aside0 (l0.drop i.toNat = []) := ⟨List.drop_eq_nil_of_le (by omega)⟩
      go_wp2
      go_ret
      rw [HGD.out, HE.out]
      exact ⟨by simp [B.goodTail], hD⟩

/-- A state of type 69 at block g of W; what its slices lead to came in by w0. -/
def IsS69 (w0 W : World) (g : Nat) (f0 : List Int) (f1 : Int) : Prop := ∃ A0 c0, W.heap[g]? = some (.cells #[.slice A0 f0.length c0, .int .i64 f1] 69 (0, 0)) ∧ w0.heap.size ≤ g ∧ Kd.C (Kd.int .u8) w0 A0 f0.length f0
theorem IsS69.grown {w0 W : World} {g : Nat} {f0 : List Int} {f1 : Int} {W1 : World} {row : Option Nat} (h : IsS69 w0 W g f0 f1) (hw : W.grownBy W1 row) (hne : some g ≠ row) : IsS69 w0 W1 g f0 f1 := by
  obtain ⟨A0, c0, hb, hg, hr0⟩ := h
  exact ⟨A0, c0, blk_grown hb hw hne, hg, hr0⟩
theorem IsS69.own_neN {w0 W : World} {g : Nat} {f0 : List Int} {f1 : Int} {α : Type} {d : Kd α} {e : Nat} {base : Nat} {ok : Nat → Prop} {v : Value} {xs : List α} (h : IsS69 w0 W g f0 f1) (ho : Kd.N d e W base ok v xs) (ht : e ≠ 69) : some g ≠ v.ownBlock := by
  obtain ⟨A0, c0, hb, hg, hr0⟩ := h
  exact Kd.N_ne ho hb ht
theorem IsS69.fresh {w0 W : World} {g : Nat} {f0 : List Int} {f1 : Int} (h : IsS69 w0 W g f0 f1) : ∀ k, W.heap.size ≤ k → k ≠ g := by
  obtain ⟨A0, c0, hb, hg, hr0⟩ := h
  exact Kd.freshB hb
theorem IsS69.kept {w0 W : World} {g : Nat} {f0 : List Int} {f1 : Int} {W1 : World} {S : Nat → Prop} (h : IsS69 w0 W g f0 f1) (hk : Kept W W1 S) (hne : ¬ S g) : IsS69 w0 W1 g f0 f1 := by
  obtain ⟨A0, c0, hb, hg, hr0⟩ := h
  exact ⟨A0, c0, blk_kept hb hk hne, hg, hr0⟩
theorem IsS69.below {w0 W : World} {g : Nat} {f0 : List Int} {f1 : Int} {W1 : World} (h : IsS69 w0 W g f0 f1) (hw : Below W.heap.size W W1) : IsS69 w0 W1 g f0 f1 := h.grown (grown_of_below hw none) (by simp)
theorem IsS69.alloc {w0 W : World} {g : Nat} {f0 : List Int} {f1 : Int} (h : IsS69 w0 W g f0 f1) (o : Obj) : IsS69 w0 (W.alloc o) g f0 f1 := h.below (below_alloc (Below.refl _ _) o)
theorem IsS69.drewN {w0 W : World} {g : Nat} {f0 : List Int} {f1 : Int} (h : IsS69 w0 W g f0 f1) (m : Nat) : IsS69 w0 (W.drewN m) g f0 f1 := h
theorem IsS69.drew {w0 W : World} {g : Nat} {f0 : List Int} {f1 : Int} (h : IsS69 w0 W g f0 f1) : IsS69 w0 W.drew g f0 f1 := h
theorem IsS69.at_ {w0 W : World} {g : Nat} {f0 : List Int} {f1 : Int} {w' : World} {m : Nat} (hq : W.drewN m = w') (h : IsS69 w0 W g f0 f1) : IsS69 w0 w' g f0 f1 := by subst hq; exact IsS69.drewN h m
theorem IsS69.apart {w0 W : World} {g : Nat} {f0 : List Int} {f1 : Int} {α : Type} {d : Kd α} {e : Nat} {base : Nat} {ok : Nat → Prop} {v : Value} {xs : List α} (h : IsS69 w0 W g f0 f1) (ho : d.R e W base ok v xs) (ht : ∀ q, q ∈ e :: d.E → q ≠ 69) : d.R e W base (fun k => ok k ∧ k ≠ g) v xs := by
  obtain ⟨A0, c0, hb, hg, hr0⟩ := h
  exact Kd.R_types ho hb ht
theorem IsS69.own_ne {w0 W : World} {g : Nat} {f0 : List Int} {f1 : Int} {α : Type} {d : Kd α} {e : Nat} {base : Nat} {ok : Nat → Prop} {v : Value} {xs : List α} (h : IsS69 w0 W g f0 f1) (ho : d.R e W base ok v xs) (ht : e ≠ 69) : some g ≠ v.ownBlock := by
  obtain ⟨A0, c0, hb, hg, hr0⟩ := h
  exact Kd.R_ne ho hb ht
theorem IsS69.apartQ {w0 W : World} {g : Nat} {f0 : List Int} {f1 : Int} {α : Type} {d : Kd α} {e : Nat} {base : Nat} {ok : Nat → Prop} {v : Value} {xs : List α} (h : IsS69 w0 W g f0 f1) (ho : d.Q e W base ok v xs) (ht : ∀ q, q ∈ e :: d.E → q ≠ 69) : d.Q e W base (fun k => ok k ∧ k ≠ g) v xs := by
  obtain ⟨A0, c0, hb, hg, hr0⟩ := h
  exact Kd.Q_types ho hb ht
theorem IsS69.own_neQ {w0 W : World} {g : Nat} {f0 : List Int} {f1 : Int} {α : Type} {d : Kd α} {e : Nat} {base : Nat} {ok : Nat → Prop} {v : Value} {xs : List α} (h : IsS69 w0 W g f0 f1) (ho : d.Q e W base ok v xs) (ht : e ≠ 69) : some g ≠ v.ownBlock := by
  obtain ⟨A0, c0, hb, hg, hr0⟩ := h
  exact Kd.Q_ne ho hb ht
theorem IsS69.apartS {w0 W : World} {g : Nat} {f0 : List Int} {f1 : Int} {α : Type} {d : Kd α} {e : Nat} {base : Nat} {ok : Nat → Prop} {v : Value} {xs : List α} (h : IsS69 w0 W g f0 f1) (ho : d.S e W base ok v xs) (ht : ∀ q, q ∈ e :: d.E → q ≠ 69) : d.S e W base (fun k => ok k ∧ k ≠ g) v xs := by
  obtain ⟨A0, c0, hb, hg, hr0⟩ := h
  exact Kd.S_types ho hb ht
theorem IsS69.own_neS {w0 W : World} {g : Nat} {f0 : List Int} {f1 : Int} {α : Type} {d : Kd α} {e : Nat} {base : Nat} {ok : Nat → Prop} {v : Value} {xs : List α} (h : IsS69 w0 W g f0 f1) (ho : d.S e W base ok v xs) (ht : e ≠ 69) : some g ≠ v.ownBlock := by
  obtain ⟨A0, c0, hb, hg, hr0⟩ := h
  exact Kd.S_ne ho hb ht
theorem IsS69.lt {w0 W : World} {g : Nat} {f0 : List Int} {f1 : Int} (h : IsS69 w0 W g f0 f1) : g < W.heap.size := by
  obtain ⟨A0, c0, hb, hg, hr0⟩ := h
  exact blk_lt hb
theorem IsS69.ge {w0 W : World} {g : Nat} {f0 : List Int} {f1 : Int} (h : IsS69 w0 W g f0 f1) : w0.heap.size ≤ g := by
  obtain ⟨A0, c0, hb, hg, hr0⟩ := h
  exact hg
theorem IsS69.ne_blk {w0 W : World} {g : Nat} {f0 : List Int} {f1 : Int} {a : Nat} {cs : Array Value} {t : TypeId} {fr : Nat × Nat} (h : IsS69 w0 W g f0 f1) (hb2 : W.heap[a]? = some (.cells cs t fr)) (ht : t ≠ 69) : g ≠ a := by
  obtain ⟨A0, c0, hb, hg, hr0⟩ := h
  rintro rfl
  rw [hb] at hb2
  injection hb2 with hb2
  injection hb2 with _ ht2
  exact ht ht2.symm
theorem IsS69.far {w0 W : World} {g : Nat} {f0 : List Int} {f1 : Int} {p : Addr} (h : IsS69 w0 W g f0 f1) (hne : g ≠ p.block) (u : Value) : IsS69 w0 (W.setCell p u) g f0 f1 := by
  obtain ⟨A0, c0, hb, hg, hr0⟩ := h
  exact ⟨A0, c0, blk_far hb hne u, hg, hr0⟩
theorem cellS69_0 {W : World} {g : Nat} {A0 : Option Addr} {c0 : Nat} {f0 : List Int} {f1 : Int} (h : W.heap[g]? = some (.cells #[.slice A0 f0.length c0, .int .i64 f1] 69 (0, 0))) : W.cell? ⟨g, 0, none⟩ = some (.slice A0 f0.length c0) := (blk_cell h 0).trans rfl
theorem cellS69_1 {W : World} {g : Nat} {A0 : Option Addr} {c0 : Nat} {f0 : List Int} {f1 : Int} (h : W.heap[g]? = some (.cells #[.slice A0 f0.length c0, .int .i64 f1] 69 (0, 0))) : W.cell? ⟨g, 1, none⟩ = some (.int .i64 f1) := (blk_cell h 1).trans rfl
theorem IsS69.set_1 {w0 W : World} {g : Nat} {f0 : List Int} {f1 : Int} (h : IsS69 w0 W g f0 f1) (x : Int) : IsS69 w0 (W.setCell ⟨g, 1, none⟩ (.int .i64 x)) g f0 x := by
  obtain ⟨A0, c0, hb, hg, hr0⟩ := h
  exact ⟨A0, c0, by simpa using blk_set hb 1 (.int .i64 x), hg, hr0⟩
theorem IsS69.new (w0 W : World) (A0 : Option Addr) (c0 : Nat) (f0 : List Int) (f1 : Int) (hB : Below w0.heap.size w0 W) (hr0 : Kd.C (Kd.int .u8) w0 A0 f0.length f0) : IsS69 w0 (W.alloc (.cells #[.slice A0 f0.length c0, .int .i64 f1] 69)) W.heap.size f0 f1 := ⟨A0, c0, by simpa using heap_alloc_new W _, hB.size, hr0⟩

/-! ### flywheelref06_Write: function 22 -/
def flywheelref06_Write.f  : Option (List Int × Int) := some (([] : List Int), 0)
set_option maxHeartbeats 8000000 in
set_option maxRecDepth 100000 in
theorem flywheelref06_Write.calls  (r1 : List Int) (r2 : Int) (w0 w : World) (hB : Below w0.heap.size w0 w) (h : flywheelref06_Write.f  = some (r1, r2)) :
    Calls Try.prog 22 #[] w fun e w' => ∃ g_ : Nat, e = .returned (.pointer (some ⟨g_, 0, none⟩)) ∧ IsS69 w0 w' g_ r1 r2 ∧ Below w0.heap.size w0 w' ∧ Below w.heap.size w w' := by
  have hu69 := Try.underlying69
  have HBW := Aside0.mk (Below.refl w.heap.size w)
  have HW0 := Aside0.mk hB.size
  have HB := Aside0.mk hB
  clear hB
  have H : (some (([] : List Int), 0)) = some (r1, r2) := h
  clear h
  simp only [Option.some.injEq, Prod.mk.injEq] at H
  obtain ⟨rfl, rfl⟩ := H
  go_enter Try.func22, Try.ntmps22
  go_wp2_with (first | ((with_reducible refine gate_dst (N := 2) rfl ?_); refine box_event ?hg (N := 2) ?hd (cs := #[.slice none 0 0, .int .i64 0]) (t := 69) ?hr ?_; (case hd => rfl); (case hg => rfl); (case hr => first | (go_simp; done) | (go_simp; rfl)); intro gb134 hg w1 hbox hb; have n0_ := Aside0.mk (below_step HBW.out hb); have n1_ := Aside0.mk (below_step (by repeat (first | (with_reducible first | exact HB.out | apply below_alloc | apply pw_below_drewN | apply below_drew1) | exact HB.out)) hb); have n2_ := Aside0.mk (hbox); have n3_ := Aside0.mk ((by rw [hg]; exact (below_size (by repeat (first | (with_reducible first | exact HBW.out | apply below_alloc | apply pw_below_drewN | apply below_drew1) | exact HBW.out))) : w.heap.size ≤ gb134)); have n4_ := Aside0.mk ((Nat.le_trans HW0.out (by rw [hg]; exact (below_size (by repeat (first | (with_reducible first | exact HBW.out | apply below_alloc | apply pw_below_drewN | apply below_drew1) | exact HBW.out))) : w.heap.size ≤ gb134) : w0.heap.size ≤ gb134)); clear HBW; clear HB; have HBW := n0_; have HB := n1_; have BK134 := n2_; have GW134 := n3_; have GE134 := n4_; clear n0_ n1_ n2_ n3_ n4_; clear hb hbox hg))
  go_ret
  exact ⟨_, rfl, (show IsS69 w0 _ gb134 ([] : List Int) 0 from ⟨none, 0, by (with_reducible repeat (first | refine blk_drewN ?_ _ | refine blk_drew ?_ | refine blk_alloc ?_ _)); exact BK134.out, GE134.out, (Kd.C_nil _ _)⟩), by repeat (first | (with_reducible first | exact HB.out | apply below_alloc | apply pw_below_drewN | apply below_drew1 | refine below_set ?_ GE134.out) | exact HB.out), by repeat (first | (with_reducible first | exact HBW.out | apply below_alloc | apply pw_below_drewN | apply below_drew1 | refine below_set ?_ GW134.out) | exact HBW.out)⟩

-- NOT PRINTED: function 37 (flywheelref06_Writer_bit)

-- NOT PRINTED: function 23 (flywheelref06_Writer_Put)

-- NOT PRINTED: function 25 (flywheelref06_Writer_Text)

/-! ### flywheelref11_Encode: function 11 -/
def flywheelref11_Encode.f (s m : Int) (l : List Int) : Option (ByteArray × Int) := if 0 ≤ s then (if s < 4294967296 then (if 0 ≤ m then (if m < 4294967296 then (some (B.nackEnc s m l)) else (none)) else (none)) else (none)) else (none)
theorem or_u32_natr (a b : Nat) (ha : a < 4294967296) (hb : b < 4294967296) : bits .or .u32 (a : Int) (b : Int) = ((a ||| b : Nat) : Int) := by
  have e32 : ∀ z : Nat, z < 4294967296 → (BitVec.ofInt 32 (z : Int)).toNat = z := fun z hz => by rw [BitVec.ofInt_natCast, BitVec.toNat_ofNat]; exact Nat.mod_eq_of_lt (by omega)
  have hor : a ||| b < 2 ^ 32 := Nat.or_lt_two_pow (by omega) (by omega)
  show IntKind.u32.wrap ((BitVec.ofInt 32 (a : Int) ||| BitVec.ofInt 32 (b : Int)).toNat : Int) = _
  rw [BitVec.toNat_or, e32 a ha, e32 b hb, IntKind.wrap_u32]
  omega
theorem flywheelref05_Cut.at16 (z : Int) : flywheelref05_Cut.f z 16 = some (z % 65536) := by
  unfold flywheelref05_Cut.f
  have p16 : (2 : Int) ^ (16 : Int).toNat = 65536 := by
    rw [show (16 : Int).toNat = 16 from rfl]
    simp
  have hc : (1 : Int) ≤ 16 ∧ (16 : Int) ≤ 32 := by omega
  rw [if_pos hc, p16]
set_option maxHeartbeats 4000000 in
theorem flywheelref11_Encode.main (A : Option Addr) (c : Nat) (l : List Int) (s m : Nat) (w : World) (hr : Kd.C (Kd.int .i64) w A l.length l) (hc : l.length ≤ c) (hg : B.goodB l = true) (hs : s < 4294967296) (hm : m < 4294967296) :
    Calls Try.prog 11 #[.agg #[.int .u32 (s : Int), .int .u32 (m : Int), .slice A l.length c]] w fun e w' => e = .returned (.tuple #[.string (strOfNums (B.packI (B.nackBits s m l))), .int .i64 0]) ∧ Below w.heap.size w w' := by
  obtain ⟨hup, hl0, hl1⟩ := B.goodB_up l hg
  have HG := Aside0.mk hg
  have HUP := Aside0.mk hup
  have HR := Aside0.mk hr
  clear hg hr hup
  go_enter Try.func11, Try.ntmps11
  go_wp2_with fail
  have hB0 : Below w.heap.size w (w.alloc (.cells #[.int .u32 (s : Int), .int .u32 (m : Int), .slice A l.length c] 25)) := (Below.refl _ _).alloc (Nat.le_refl _) _
  refine (flywheelref11_Good.calls A c l true _ (Kd.C_below HR.out hB0) hc (congrArg some HG.out)).mono ?_
  rintro e w1 ⟨rfl, ⟨⟨nd, rfl⟩⟩⟩
  have hB1 : Below w.heap.size w ((w.alloc (.cells #[.int .u32 (s : Int), .int .u32 (m : Int), .slice A l.length c] 25)).drewN nd) := pw_below_drewN hB0 nd
  have hK1 : ((w.alloc (.cells #[.int .u32 (s : Int), .int .u32 (m : Int), .slice A l.length c] 25)).drewN nd).heap[w.heap.size]? = some (.cells #[.int .u32 (s : Int), .int .u32 (m : Int), .slice A l.length c] 25 (0, 0)) := blk_drewN (blk_new w _) nd
  generalize (w.alloc (.cells #[.int .u32 (s : Int), .int .u32 (m : Int), .slice A l.length c] 25)).drewN nd = w1 at *
  clear hB0
  obtain ⟨b, hb⟩ : ∃ b, w.heap.size = b := ⟨_, rfl⟩
  rw [hb] at hB1 hK1 ⊢
  have HBW := Aside0.mk hb
  clear hb
  have k0 := blk_cell hK1 0
  have k1 := blk_cell hK1 1
  have k2 := blk_cell hK1 2
  simp only [List.getElem?_toArray, List.getElem?_cons_zero, List.getElem?_cons_succ] at k0 k1 k2
  have hbl := blk_lt hK1
  have HK1 := Aside0.mk hK1
  clear hK1
  go_wp2_with fail
  refine (B.rwrite_any _).mono ?_
  rintro e w2 ⟨rfl, hW2, hB2⟩
  obtain ⟨p, hp⟩ : ∃ p, w1.heap.size = p := ⟨_, rfl⟩
  rw [hp] at hW2 hB2 hbl ⊢
  clear hp
  have hK2 := (hB2.block b hbl).trans HK1.out
  have q1 := blk_cell hK2 0
  simp only [List.getElem?_toArray, List.getElem?_cons_zero, List.getElem?_cons_succ] at q1
  have hB1' : Below b w w2 := hB1.trans (hB2.mono (by omega))
  clear k0 k1 k2 hB1 hB2
  have HK2 := Aside0.mk hK2
  clear hK2 HK1
  go_wp2_with fail
  refine (B.rput_any w2 p [] s 32 hW2 hs (by omega) (by simp)).mono ?_
  rintro e w3 ⟨rfl, hW3, hB3⟩
  have hK3 := (hB3.block b hbl).trans HK2.out
  have q2 := blk_cell hK3 1
  simp only [List.getElem?_toArray, List.getElem?_cons_zero, List.getElem?_cons_succ] at q2
  have hB2' : Below b w w3 := hB1'.trans (hB3.mono (by omega))
  have HK3 := Aside0.mk hK3
  clear hK3 HK2 q1 hW2 hB1' hB3
  go_wp2_with fail
  refine (B.rput_any w3 p _ m 32 hW3 hm (by omega) (by simp [B.toBits_length])).mono ?_
  rintro e w4 ⟨rfl, hW4, hB4⟩
  have HK4 := Aside0.mk ((hB4.block b hbl).trans HK3.out)
  have hB3' : Below b w w4 := hB2'.trans (hB4.mono (by omega))
  have hbits : ([] ++ B.toBits 32 s ++ B.toBits 32 m).length = 64 := by simp [B.toBits_length]
  obtain ⟨bits0, hbits0⟩ : ∃ bs, [] ++ B.toBits 32 s ++ B.toBits 32 m = bs := ⟨_, rfl⟩
  rw [hbits0] at hW4 hbits
  have HB0 := Aside0.mk (show B.nackBits s m l = bits0 ++ B.entBits l.length l from by unfold B.nackBits; rw [← hbits0]; simp)
  have HBL := Aside0.mk hbits
  clear HK3 q2 hW3 hB2' hB4 hbits hbits0
  go_wp2
  go_loopw [5] (fun v wr => ∃ (j : Nat) (bs : List Bool), v = .int .i64 (j : Int) ∧ j ≤ l.length ∧ bs ++ B.entBits (l.drop j).length (l.drop j) = B.nackBits s m l ∧ bs.length + 32 * (l.length - j) ≤ 64 + 32 * l.length ∧ B.WrIs wr p 69 5 bs ∧ wr.heap[b]? = some (.cells #[.int .u32 (s : Int), .int .u32 (m : Int), .slice A l.length c] 25 (0, 0)) ∧ Below b w wr) (fun v _ => l.length - (intOf v).toNat)
  case atStart => exact ⟨0, bits0, rfl, by omega, by rw [List.drop_zero]; exact HB0.out.symm, by rw [HBL.out]; omega, hW4, HK4.out, hB3'⟩
  case round =>
    obtain ⟨j, bs, rfl, hj, hbs, hbl', hWr, hKr, hBr⟩ := hrel
    have hCr : Kd.C (Kd.int .i64) wr A l.length l := Kd.C_below HR.out (by rw [HBW.out]; exact hBr)
    have k2 := blk_cell hKr 2
    simp only [List.getElem?_toArray, List.getElem?_cons_zero, List.getElem?_cons_succ] at k2
    have HWr := Aside0.mk hWr
    have HBr := Aside0.mk hBr
    have HBS := Aside0.mk hbs
    have HKr := Aside0.mk hKr
    clear hWr hBr hbs hKr
    by_cases hpos : j < l.length
    · obtain ⟨ad, hA', hx0⟩ := Kd.at_int hCr (j : Int) (by omega) (by omega)
      subst hA'
      rw [show ((j : Int)).toNat = j from by omega] at hx0
      obtain ⟨x, hx⟩ : ∃ x, rd l (j : Int) = x := ⟨_, rfl⟩
      rw [hx] at hx0
      have hxi : l[j] = x := by rw [← hx]; simp [rd, List.getD_eq_getElem?_getD, List.getElem?_eq_getElem hpos]
      have hxb : 0 ≤ x ∧ x < 65536 := by rw [← hxi]; exact HUP.out.1 _ (List.getElem_mem hpos)
      obtain ⟨xn, rfl⟩ : ∃ n : Nat, x = (n : Int) := ⟨x.toNat, by omega⟩
      have HX := Aside0.mk hxi
      have HL' : Aside0 (l.drop j = (xn : Int) :: l.drop (j + 1)) := ⟨by rw [List.drop_eq_getElem_cons hpos, hxi]⟩
      clear hxi hx
      have hdl : decide ((j : Int) < (l.length : Int)) = true := decide_eq_true (by omega)
      go_wp2
      go_loopw [5, 7] (fun iv mv wi => ∃ mk i : Nat, mv = .int .u32 (mk : Int) ∧ iv = .int .i64 (i : Int) ∧ j + 1 ≤ i ∧ i ≤ l.length ∧ mk < 65536 ∧ B.takeMask (xn : Int) mk (l.drop i) = B.takeMask (xn : Int) 0 (l.drop (j + 1)) ∧ Drawn0 wr wi) (fun iv _ _ => l.length - (intOf iv).toNat)
      case atStart => exact ⟨0, j + 1, rfl, rfl, by omega, by omega, by omega, rfl, Drawn0.refl _⟩
      case round =>
        obtain ⟨mk, i, rfl, rfl, hi1, hi2, hmk, htm, hD⟩ := hrel
        obtain ⟨ndi, rfl⟩ := hD.out
        clear hD
        have HTM := Aside0.mk htm
        clear htm
        refine (Nat.lt_or_ge i l.length).elim (fun hlt => ?inside) (fun hlt => ?done)
        case' inside =>
          have hdi : decide ((i : Int) < (l.length : Int)) = true := decide_eq_true (by omega)
          obtain ⟨ad2, hA2, hy0⟩ := Kd.at_int hCr (i : Int) (by omega) (by omega)
          cases hA2
          rw [show ((i : Int)).toNat = i from by omega] at hy0
          obtain ⟨y, hy⟩ : ∃ y, rd l (i : Int) = y := ⟨_, rfl⟩
          rw [hy] at hy0
          have hyi : l[i] = y := by rw [← hy]; simp [rd, List.getD_eq_getElem?_getD, List.getElem?_eq_getElem hlt]
          have hxi := HX.out
          have hyb : 0 ≤ y ∧ y < 65536 := by rw [← hyi]; exact HUP.out.1 _ (List.getElem_mem hlt)
          have hdxy : 1 ≤ B.dist (xn : Int) y := by
            have := (List.pairwise_iff_getElem.1 HUP.out.2) j i hpos hlt (by omega)
            rw [hxi, hyi] at this
            exact this.1
          have hdr : l.drop i = y :: l.drop (i + 1) := by rw [List.drop_eq_getElem_cons hlt, hyi]
          have HC := Aside0.mk (show flywheelref05_Cut.f (y - (xn : Int)) 16 = some (B.dist (xn : Int) y) from flywheelref05_Cut.at16 _)
          obtain ⟨D, hDD⟩ : ∃ D, B.dist (xn : Int) y = D := ⟨_, rfl⟩
          rw [hDD] at HC hdxy
          have HDD := Aside0.mk hDD
          have HDR := Aside0.mk hdr
          clear hy hyi hxi hDD hdr
          refine (Int.lt_or_le 16 D).elim (fun h16 => ?far) (fun h16 => ?near)
        case near =>
          have hd16 : decide (16 < D) = false := decide_eq_false (by omega)
          obtain ⟨dn, rfl⟩ : ∃ n : Nat, D = (n : Int) := ⟨D.toNat, by omega⟩
          have hp16 : (2 : Nat) ^ (dn - 1) < 2 ^ 16 := Nat.pow_lt_pow_right (by omega) (by omega)
          have H2 : Aside0 ((2 : Int) ^ (dn - 1) % 4294967296 = ((2 ^ (dn - 1) : Nat) : Int)) := ⟨by
            have e2 : ((2 : Int) ^ (dn - 1)) = ((2 ^ (dn - 1) : Nat) : Int) := by rw [Int.natCast_pow]; rfl
            rw [e2]
            generalize 2 ^ (dn - 1) = z at hp16 ⊢
            omega⟩
          have HOR := or_u32_natr mk (2 ^ (dn - 1)) (by omega) (by omega)
          have HMK : Aside0 (mk ||| 2 ^ (dn - 1) < 65536) := ⟨Nat.or_lt_two_pow (n := 16) hmk hp16⟩
          go_wp2_with fail
          refine (flywheelref05_Cut.calls _ 16 (dn : Int) _ HC.out).mono ?_
          rintro e w9 ⟨rfl, ⟨⟨nd9, rfl⟩⟩⟩
          all_goals
            go_wp2
            refine ⟨⟨mk ||| 2 ^ (dn - 1), i + 1, ?_, rfl, by omega, by omega, HMK.out, ?_, ⟨_, rfl⟩⟩, ?_⟩
            · rw [H2.out, HOR]
            · rw [← HTM.out, HDR.out]
              conv => rhs; unfold B.takeMask
              rw [if_neg (by rw [HDD.out]; omega), HDD.out]
              rfl
            · simp [intOf]
              omega
        case' far =>
          have hd16 : decide (16 < D) = true := decide_eq_true h16
          have HEND : Aside0 (B.takeMask (xn : Int) mk (l.drop i) = (mk, l.drop i)) := ⟨by rw [HDR.out]; unfold B.takeMask; rw [if_pos (by rw [HDD.out]; exact h16)]⟩
          go_wp2_with fail
          refine (flywheelref05_Cut.calls _ 16 D _ HC.out).mono ?_
          rintro e w9 ⟨rfl, ⟨⟨nd9, rfl⟩⟩⟩
          all_goals
            go_wp2_with fail
            obtain ⟨k, hk⟩ : ∃ k, ndi + nd9 = k := ⟨_, rfl⟩
            rw [hk]
        case' done =>
          have hdi : decide ((i : Int) < (l.length : Int)) = false := decide_eq_false (by omega)
          have HEND : Aside0 (B.takeMask (xn : Int) mk (l.drop i) = (mk, l.drop i)) := ⟨by rw [List.drop_eq_nil_of_le hlt]; rfl⟩
          go_wp2_with fail
          obtain ⟨k, hk⟩ : ∃ k, ndi = k := ⟨_, rfl⟩
          rw [hk]
        all_goals
          refine (B.rput_any (wr.drewN k) p bs xn 16 (show B.WrIs (wr.drewN k) p _ _ bs from HWr.out) (by omega) (by omega) (by omega)).mono ?_
          rintro e w5 ⟨rfl, hW5, hB5⟩
          go_wp2_with fail
          refine (B.rput_any w5 p _ mk 16 hW5 (by omega) (by omega) (by rw [List.length_append, B.toBits_length]; omega)).mono ?_
          rintro e w6 ⟨rfl, hW6, hB6⟩
          go_wp2
          go_roundw
          case rel =>
            have hbt : B.entBits (l.drop j).length (l.drop j) = B.toBits 16 xn ++ (B.toBits 16 mk ++ B.entBits (l.drop i).length (l.drop i)) := by
              have h1 : B.takeMask (xn : Int) 0 (l.drop (j + 1)) = (mk, l.drop i) := HTM.out.symm.trans HEND.out
              rw [HL'.out, List.length_cons]
              simp only [B.entBits, Int.toNat_natCast, h1]
              rw [B.entBits_more (l.drop (j + 1)).length (l.drop i) (by rw [List.length_drop, List.length_drop]; omega)]
            refine ⟨i, _, rfl, hi2, ?_, ?_, hW6, ?_, ?_⟩
            · rw [← HBS.out, hbt]; simp
            · simp only [List.length_append, B.toBits_length]; omega
            · exact (hB6.block b (by have := hB5.size; have := blk_lt (blk_drewN HKr.out k); omega)).trans ((hB5.block b hbl).trans (blk_drewN HKr.out k))
            · exact ((pw_below_drewN HBr.out k).trans (hB5.mono (by omega))).trans (hB6.mono (by omega))
          case measure =>
            simp [intOf]
            omega
    · have hdl : decide ((j : Int) < (l.length : Int)) = false := decide_eq_false (by omega)
      go_wp2_with fail
      refine (B.rtext_any _ _ _ HWr.out).mono ?_
      rintro e w9 ⟨rfl, rfl⟩
      go_wp2
      go_ret2
      have hl0' : l.drop j = [] := List.drop_eq_nil_of_le (by omega)
      have hbs := HBS.out
      rw [hl0'] at hbs
      simp only [List.length_nil, B.entBits, List.append_nil] at hbs
      rw [hbs, HBW.out]
      exact ⟨rfl, HBr.out⟩
theorem flywheelref11_Encode.early (A : Option Addr) (c : Nat) (l : List Int) (s m : Nat) (w : World) (hr : Kd.C (Kd.int .i64) w A l.length l) (hc : l.length ≤ c) (hg : ¬ B.goodB l = true) (hs : s < 4294967296) (hm : m < 4294967296) :
    Calls Try.prog 11 #[.agg #[.int .u32 (s : Int), .int .u32 (m : Int), .slice A l.length c]] w fun e w' => e = .returned (.tuple #[.string ⟨#[]⟩, .int .i64 1]) ∧ Below w.heap.size w w' := by
  have HG := Aside0.mk (show B.goodB l = false by simpa using hg)
  have HR := Aside0.mk hr
  clear hg hr
  go_enter Try.func11, Try.ntmps11
  go_wp2_with fail
  have hB0 : Below w.heap.size w (w.alloc (.cells #[.int .u32 (s : Int), .int .u32 (m : Int), .slice A l.length c] 25)) := (Below.refl _ _).alloc (Nat.le_refl _) _
  refine (flywheelref11_Good.calls A c l false _ (Kd.C_below HR.out hB0) hc (congrArg some HG.out)).mono ?_
  rintro e w1 ⟨rfl, ⟨⟨nd, rfl⟩⟩⟩
  have hB1 := pw_below_drewN hB0 nd
  go_wp2
  go_ret2
  exact ⟨rfl, hB1⟩

theorem flywheelref11_Encode.calls (a0_0 : Int) (a0_1 : Int) (A0_2 : Option Addr) (c0_2 : Nat) (l0_2 : List Int) (r1 : ByteArray) (r2 : Int) (w : World) (hr0_2 : Kd.C (Kd.int .i64) w A0_2 l0_2.length l0_2) (hc0_2 : l0_2.length ≤ c0_2) (h : flywheelref11_Encode.f a0_0 a0_1 l0_2 = some (r1, r2)) :
    Calls Try.prog 11 #[.agg #[.int .u32 a0_0, .int .u32 a0_1, .slice A0_2 l0_2.length c0_2]] w fun e w' => e = .returned (.tuple #[.string r1, .int .i64 r2]) ∧ Below w.heap.size w w' := by
  unfold flywheelref11_Encode.f at h
  by_cases h1 : 0 ≤ a0_0
  · by_cases h2 : a0_0 < 4294967296
    · by_cases h3 : 0 ≤ a0_1
      · by_cases h4 : a0_1 < 4294967296
        · rw [if_pos h1, if_pos h2, if_pos h3, if_pos h4] at h
          have h := Option.some.inj h
          obtain ⟨s, rfl⟩ : ∃ s : Nat, a0_0 = s := ⟨a0_0.toNat, by omega⟩
          obtain ⟨m, rfl⟩ : ∃ s : Nat, a0_1 = s := ⟨a0_1.toNat, by omega⟩
          by_cases hg : B.goodB l0_2 = true
          · unfold B.nackEnc at h
            rw [if_pos hg] at h
            simp only [Prod.mk.injEq, Int.toNat_natCast] at h
            obtain ⟨rfl, rfl⟩ := h
            exact flywheelref11_Encode.main A0_2 c0_2 l0_2 s m w hr0_2 hc0_2 hg (by omega) (by omega)
          · unfold B.nackEnc at h
            rw [if_neg hg] at h
            simp only [Prod.mk.injEq] at h
            obtain ⟨rfl, rfl⟩ := h
            exact flywheelref11_Encode.early A0_2 c0_2 l0_2 s m w hr0_2 hc0_2 hg (by omega) (by omega)
        · rw [if_pos h1, if_pos h2, if_pos h3, if_neg h4] at h; cases h
      · rw [if_pos h1, if_pos h2, if_neg h3] at h; cases h
    · rw [if_pos h1, if_neg h2] at h; cases h
  · rw [if_neg h1] at h; cases h

end Go.Proofs.Ytnllbldfganfgaa.PNackEncodes
