-- Printed by a program of this session's (myprint.py) for this claim.
import Derived.Test.YtnllbldfganfgaaPNackShortx0
import Derived.Test.YtnllbldfganfgaaPNackShortx2
namespace Go.Proofs.Ytnllbldfganfgaa.PNackShort
open Go.RowKit Go.Proofs.YtnllbldfganfgaaW.PrintWords Go.Proofs.YtnllbldfganfgaaW.PrintLast Go.Proofs.YtnllbldfganfgaaW.PrintMore
attribute [local go_sem] max2_int min2_int max_two min_two max_three min_three max_four min_four   -- for this text's walks alone
set_option linter.unusedVariables false
set_option linter.unusedSimpArgs false

/-! ### flywheellaw11_NackShort: function 7 -/
def flywheellaw11_NackShort.l0 : Nat → Int → Int → List Int → Int → Option (Bool)
  | 0, _, _, _, _ => none
  | k + 1, x0, x5, x6, x7 => if x7 < x5 then (if x6.length < 17592186044416 then (flywheellaw11_NackShort.l0 k x0 x5 (x6 ++ [wrap64 (IntKind.u16.wrap (x0 + (IntKind.u16.wrap (x7))))]) (wrap64 (x7 + 1))) else (none)) else ((nack_Encode.f 0 0 x6).bind fun bt127 => (if bt127.2 = 0 then (if (bt127.1.size : Int) = (wrap64 (8 + (wrap64 (4 * (wrap64 (Int.tdiv (wrap64 (x5 + 16)) 17)))))) then ((flywheellaw11_wakes.f).bind fun t129 => (some t129)) else (some false)) else (some false)))
def flywheellaw11_NackShort.f (k : Nat) (a0 : Int) (a1 : Int) : Option (Bool) := flywheellaw11_NackShort.l0 k a0 (wrap64 (1 + (wrap64 (Int.tmod (IntKind.u64.wrap (a1)) 4096)))) ([] : List Int) 0
theorem flywheellaw11_NackShort.mono_l : ∀ k, (∀ y0 y1 y2 y3, LeO (flywheellaw11_NackShort.l0 k y0 y1 y2 y3) (flywheellaw11_NackShort.l0 (k + 1) y0 y1 y2 y3))
  | 0 => fun _ _ _ _ r h => by simp [flywheellaw11_NackShort.l0] at h
  | k + 1 => by
    have ih0 := flywheellaw11_NackShort.mono_l k
    · intro y0 y1 y2 y3
      unfold flywheellaw11_NackShort.l0
      repeat' first
      | (with_reducible exact ih0 _ _ _ _)
      | (with_reducible exact LeO.refl _)
      | (with_reducible exact LeO.none _)
      | (with_reducible refine LeO.ite ?_ ?_)
      | (with_reducible refine LeO.bind ?_ (fun _ => ?_))
      | exact ih0 _ _ _ _
      | exact LeO.none _
      | refine LeO.ite ?_ ?_
      | refine LeO.bind ?_ (fun _ => ?_)
theorem flywheellaw11_NackShort.mono : ∀ a0 a1 k, LeO (flywheellaw11_NackShort.f k a0 a1) (flywheellaw11_NackShort.f (k + 1) a0 a1) := by
  intro a0 a1 k
  have ih0 := flywheellaw11_NackShort.mono_l k
  unfold flywheellaw11_NackShort.f
  repeat' first
      | (with_reducible exact ih0 _ _ _ _)
      | (with_reducible exact LeO.refl _)
      | (with_reducible exact LeO.none _)
      | (with_reducible refine LeO.ite ?_ ?_)
      | (with_reducible refine LeO.bind ?_ (fun _ => ?_))
      | exact ih0 _ _ _ _
      | exact LeO.none _
      | refine LeO.ite ?_ ?_
      | refine LeO.bind ?_ (fun _ => ?_)
set_option maxHeartbeats 8000000 in
set_option maxRecDepth 100000 in
theorem flywheellaw11_NackShort.calls (k : Nat) (a0 : Int) (a1 : Int) (r : Bool) (w : World) (h : flywheellaw11_NackShort.f k a0 a1 = some r) :
    Calls Try.prog 7 #[.int .u16 a0, .int .i64 a1] w fun e w' => e = .returned (.bool r) ∧ Below w.heap.size w w' := by
  have hu25 := Try.underlying25
  have HB := Aside0.mk (Below.refl w.heap.size w)
  have H : (flywheellaw11_NackShort.l0 k a0 (wrap64 (1 + (wrap64 (Int.tmod (IntKind.u64.wrap (a1)) 4096)))) ([] : List Int) 0) = some r := h
  clear h
  have H' := Aside0.mk H
  clear H
  go_enter Try.func7, Try.ntmps7
  go_wp2
  go_loopg [6, 7] k (fun kq v6 v7 w' => ∃ (x6_1 : List Int) (x7_1 : Int), v7 = .int .i64 x7_1 ∧ Aside0 (flywheellaw11_NackShort.l0 kq a0 (wrap64 (1 + (wrap64 (Int.tmod (IntKind.u64.wrap (a1)) 4096)))) x6_1 x7_1 = some r) ∧ Aside0 (kq ≤ k) ∧ Aside0 (Kd.R (Kd.int .i64) 3 w' w.heap.size (fun _ => True) v6 x6_1) ∧ Aside0 (Below w.heap.size w w'))
  case atStart => exact ⟨(([] : List Int)), (0), (by first | rfl | (simp; done) | (simp [*]; done)), H', ⟨Nat.le_refl _⟩, ⟨by first | exact Kd.R_nil _ _ _ _ _ | exact Kd.N_nil _ _ _ _ _ | exact Kd.V_nil _ _ _ _ _ | exact Kd.Q_nil _ _ _ _ _ | exact Kd.S_nil _ _ _ _ _⟩, ⟨by repeat (first | (with_reducible first | exact HB.out | apply below_alloc | apply pw_below_drewN | apply below_drew1) | exact HB.out)⟩⟩
  case round =>
    clear H'
    try clear p2
    obtain ⟨x6_1, x7_1, rfl, HA, HK1, HO_6, HB⟩ := hrel
    cases gk with
    | zero => exact absurd HA.out (by simp [flywheellaw11_NackShort.l0])
    | succ k1 =>
      have H := HA.out
      clear HA
      simp only [flywheellaw11_NackShort.l0] at H
      by_cases c3 : x7_1 < (wrap64 (1 + (wrap64 (Int.tmod (IntKind.u64.wrap (a1)) 4096))))
      · rw [if_pos c3] at H
        have c3b0 : decide (x7_1 < (wrap64 (1 + (wrap64 (Int.tmod (IntKind.u64.wrap (a1)) 4096))))) = true := decide_eq_true c3
        clear c3
        by_cases c4 : x6_1.length < 17592186044416
        · rw [if_pos c4] at H
          have LMc4 := Aside0.mk c4
          clear c4
          obtain ⟨y124, hy124⟩ : ∃ y_ : List Int, y_ = (x6_1 ++ [wrap64 (IntKind.u16.wrap (a0 + (IntKind.u16.wrap (x7_1))))]) := ⟨_, rfl⟩
          replace H : (flywheellaw11_NackShort.l0 k1 a0 (wrap64 (1 + (wrap64 (Int.tmod (IntKind.u64.wrap (a1)) 4096)))) y124 (wrap64 (x7_1 + 1))) = some r := by first | (rw [hy124]; with_reducible exact H) | (have H2_ := (Option.bind_some _ _).symm.trans H; rw [hy124]; with_reducible exact H2_) | (have H2_ := (Option.bind_some _ _).symm.trans H; with_reducible exact H2_) | with_reducible exact H | (rw [hy124]; exact H) | exact H
          have Ny124 := Aside0.mk hy124
          clear hy124
          have H' := Aside0.mk H
          clear H
          go_wp2_with (first | ((with_reducible refine gate_builtin (b := .append) (xs := #[.tmp 20, .tmp 26]) rfl ?_); (try (refine gate_guard (by rfl) ?_; dsimp only)); at_builtin; refine Kd.R_append (Kd.int .i64) (w0 := w) w.heap.size rfl (.tmp 20) (.tmp 26) 23 3 (.int .i64 0) 8 rfl Try.underlying23 info3 rfl (by decide) (by omega) u6 x6_1 (wrap64 (IntKind.u16.wrap (a0 + (IntKind.u16.wrap (x7_1))))) [.int .i64 (wrap64 (IntKind.u16.wrap (a0 + (IntKind.u16.wrap (x7_1)))))] (fun _ => True) (fun _ => False) rfl rfl ?aP (fun _ hk => hk.elim) ?aF ?aO ?aB ?aS ?aL ?_; (case aP => exact rfl); (case aB => exact (by repeat (first | (with_reducible first | exact HB.out | apply below_alloc | apply pw_below_drewN | apply below_drew1) | exact HB.out))); (case aF => exact (fun _ _ => trivial)); (case aO => exact (by (with_reducible repeat (first | apply Kd.R_alloc | apply Kd.R_drewN | apply Kd.R_drew)); exact HO_6.out)); (case aS => exact (below_size (by repeat (first | (with_reducible first | exact HB.out | apply below_alloc | apply pw_below_drewN | apply below_drew1) | exact HB.out)))); (case aL => have := LMc4.out; omega); intro v125 w5 ho hb hg hat; rw [← Ny124.out] at ho; have n0_ := Aside0.mk (hb); have n1_ := Aside0.mk (ho); clear HB; clear HO_6; have HB := n0_; have HO126 := n1_; clear n0_ n1_; clear ho hb hg hat))
          go_roundg k1
          case measure => have := HK1.out; omega
          case rel => exact ⟨(y124), (wrap64 (x7_1 + 1)), (by first | rfl | (simp; done) | (simp [*]; done)), H', ⟨by have := HK1.out; omega⟩, ⟨by (with_reducible repeat (first | apply Kd.R_alloc | apply Kd.R_drewN | apply Kd.R_drew)); exact HO126.out⟩, ⟨by repeat (first | (with_reducible first | exact HB.out | apply below_alloc | apply pw_below_drewN | apply below_drew1) | exact HB.out)⟩⟩
        · rw [if_neg c4] at H
          exact absurd H (by simp)
      · rw [if_neg c3] at H
        have c3b0 : decide (x7_1 < (wrap64 (1 + (wrap64 (Int.tmod (IntKind.u64.wrap (a1)) 4096))))) = false := decide_eq_false c3
        clear c3
        replace H := Option.bind_eq_some_iff.mp H
        obtain ⟨⟨t127, t128⟩, A60, H⟩ := H
        replace H : (if t128 = 0 then (if (t127.size : Int) = (wrap64 (8 + (wrap64 (4 * (wrap64 (Int.tdiv (wrap64 ((wrap64 (1 + (wrap64 (Int.tmod (IntKind.u64.wrap (a1)) 4096)))) + 16)) 17)))))) then ((flywheellaw11_wakes.f).bind fun t129 => (some t129)) else (some false)) else (some false)) = some r := H
        have A6 := Aside0.mk A60
        clear A60
        by_cases c7 : t128 = 0
        · rw [if_pos c7] at H
          have c7b0 : (t128 == 0) = true := beq_iff_eq.mpr c7
          have c7b1 : (t128 != 0) = false := bne_eq_false_iff_eq.mpr c7
          clear c7
          by_cases c8 : (t127.size : Int) = (wrap64 (8 + (wrap64 (4 * (wrap64 (Int.tdiv (wrap64 ((wrap64 (1 + (wrap64 (Int.tmod (IntKind.u64.wrap (a1)) 4096)))) + 16)) 17))))))
          · rw [if_pos c8] at H
            have c8b0 : ((t127.size : Int) == (wrap64 (8 + (wrap64 (4 * (wrap64 (Int.tdiv (wrap64 ((wrap64 (1 + (wrap64 (Int.tmod (IntKind.u64.wrap (a1)) 4096)))) + 16)) 17))))))) = true := beq_iff_eq.mpr c8
            have c8b1 : ((t127.size : Int) != (wrap64 (8 + (wrap64 (4 * (wrap64 (Int.tdiv (wrap64 ((wrap64 (1 + (wrap64 (Int.tmod (IntKind.u64.wrap (a1)) 4096)))) + 16)) 17))))))) = false := bne_eq_false_iff_eq.mpr c8
            clear c8
            replace H := Option.bind_eq_some_iff.mp H
            obtain ⟨t129, A90, H⟩ := H
            replace H : (some t129) = some r := H
            have A9 := Aside0.mk A90
            clear A90
            obtain rfl := Option.some.inj H
            obtain ⟨Ao10, co10, eo10⟩ := Kd.R_slice HO_6.out
            subst eo10
            go_wp2_with (first | ((with_reducible refine gate_callee (f := 10) rfl ?_); refine goesL_ (some 31) rfl rfl Try.func10 (by kernel_rfl) rfl #[.agg #[.int .u32 0, .int .u32 0, .slice Ao10 x6_1.length co10]] rfl (by (try simp only [List.map_toArray, List.map_cons, List.map_nil]); first | done | rfl | (simp only [List.length_drop, List.length_take]; rfl)) ?_; (with_reducible refine (nack_Encode.calls 0 0 _ _ x6_1 t127 t128 _ ?side1 ?side2 A6.out).mono ?_); (case side1 => repeat (first | exact (Kd.R_reads' HO_6.out).2.2 | (with_reducible refine Kd.C_alloc ?_ _) | (with_reducible refine Kd.C_drewN ?_ _) | (with_reducible refine Kd.C_drew ?_))); (case side2 => exact (Kd.R_reads' HO_6.out).2.1); rintro e w11 ⟨rfl, hb⟩; refine ⟨_, rfl, ?_⟩; have n0_ := Aside0.mk (Kd.R_below (by (with_reducible repeat (first | apply Kd.R_alloc | apply Kd.R_drewN | apply Kd.R_drew)); exact HO_6.out) hb); have n1_ := Aside0.mk (below_step (by repeat (first | (with_reducible first | exact HB.out | apply below_alloc | apply pw_below_drewN | apply below_drew1) | exact HB.out)) hb); clear HO_6; clear HB; have HO_6 := n0_; have HB := n1_; clear n0_ n1_; (try clear hb); (try clear hb2); (try clear hk); (try clear hi)) | (go_at_call 8; (with_reducible refine (flywheellaw11_wakes.calls  t129 _ A9.out).mono ?_); rintro e w12 ⟨rfl, hb⟩; have n0_ := Aside0.mk (Kd.R_below (by (with_reducible repeat (first | apply Kd.R_alloc | apply Kd.R_drewN | apply Kd.R_drew)); exact HO_6.out) hb); have n1_ := Aside0.mk (below_step (by repeat (first | (with_reducible first | exact HB.out | apply below_alloc | apply pw_below_drewN | apply below_drew1) | exact HB.out)) hb); clear HO_6; clear HB; have HO_6 := n0_; have HB := n1_; clear n0_ n1_; (try clear hb); (try clear hb2); (try clear hk); (try clear hi)))
            go_ret
            exact ⟨by first | rfl | (simp [errW_none, errW_some] <;> rfl) | (simp [*, errW_none, errW_some] <;> rfl), by repeat (first | (with_reducible first | exact HB.out | apply below_alloc | apply pw_below_drewN | apply below_drew1) | exact HB.out)⟩
          · rw [if_neg c8] at H
            have c8b0 : ((t127.size : Int) == (wrap64 (8 + (wrap64 (4 * (wrap64 (Int.tdiv (wrap64 ((wrap64 (1 + (wrap64 (Int.tmod (IntKind.u64.wrap (a1)) 4096)))) + 16)) 17))))))) = false := beq_eq_false_iff_ne.mpr c8
            have c8b1 : ((t127.size : Int) != (wrap64 (8 + (wrap64 (4 * (wrap64 (Int.tdiv (wrap64 ((wrap64 (1 + (wrap64 (Int.tmod (IntKind.u64.wrap (a1)) 4096)))) + 16)) 17))))))) = true := bne_iff_ne.mpr c8
            obtain rfl := Option.some.inj H
            obtain ⟨Ao13, co13, eo13⟩ := Kd.R_slice HO_6.out
            subst eo13
            go_wp2_with (first | ((with_reducible refine gate_callee (f := 10) rfl ?_); refine goesL_ (some 31) rfl rfl Try.func10 (by kernel_rfl) rfl #[.agg #[.int .u32 0, .int .u32 0, .slice Ao13 x6_1.length co13]] rfl (by (try simp only [List.map_toArray, List.map_cons, List.map_nil]); first | done | rfl | (simp only [List.length_drop, List.length_take]; rfl)) ?_; (with_reducible refine (nack_Encode.calls 0 0 _ _ x6_1 t127 t128 _ ?side1 ?side2 A6.out).mono ?_); (case side1 => repeat (first | exact (Kd.R_reads' HO_6.out).2.2 | (with_reducible refine Kd.C_alloc ?_ _) | (with_reducible refine Kd.C_drewN ?_ _) | (with_reducible refine Kd.C_drew ?_))); (case side2 => exact (Kd.R_reads' HO_6.out).2.1); rintro e w14 ⟨rfl, hb⟩; refine ⟨_, rfl, ?_⟩; have n0_ := Aside0.mk (Kd.R_below (by (with_reducible repeat (first | apply Kd.R_alloc | apply Kd.R_drewN | apply Kd.R_drew)); exact HO_6.out) hb); have n1_ := Aside0.mk (below_step (by repeat (first | (with_reducible first | exact HB.out | apply below_alloc | apply pw_below_drewN | apply below_drew1) | exact HB.out)) hb); clear HO_6; clear HB; have HO_6 := n0_; have HB := n1_; clear n0_ n1_; (try clear hb); (try clear hb2); (try clear hk); (try clear hi)))
            go_ret
            exact ⟨by first | rfl | (simp [errW_none, errW_some] <;> rfl) | (simp [*, errW_none, errW_some] <;> rfl), by repeat (first | (with_reducible first | exact HB.out | apply below_alloc | apply pw_below_drewN | apply below_drew1) | exact HB.out)⟩
        · rw [if_neg c7] at H
          have c7b0 : (t128 == 0) = false := beq_eq_false_iff_ne.mpr c7
          have c7b1 : (t128 != 0) = true := bne_iff_ne.mpr c7
          obtain rfl := Option.some.inj H
          obtain ⟨Ao15, co15, eo15⟩ := Kd.R_slice HO_6.out
          subst eo15
          go_wp2_with (first | ((with_reducible refine gate_callee (f := 10) rfl ?_); refine goesL_ (some 31) rfl rfl Try.func10 (by kernel_rfl) rfl #[.agg #[.int .u32 0, .int .u32 0, .slice Ao15 x6_1.length co15]] rfl (by (try simp only [List.map_toArray, List.map_cons, List.map_nil]); first | done | rfl | (simp only [List.length_drop, List.length_take]; rfl)) ?_; (with_reducible refine (nack_Encode.calls 0 0 _ _ x6_1 t127 t128 _ ?side1 ?side2 A6.out).mono ?_); (case side1 => repeat (first | exact (Kd.R_reads' HO_6.out).2.2 | (with_reducible refine Kd.C_alloc ?_ _) | (with_reducible refine Kd.C_drewN ?_ _) | (with_reducible refine Kd.C_drew ?_))); (case side2 => exact (Kd.R_reads' HO_6.out).2.1); rintro e w16 ⟨rfl, hb⟩; refine ⟨_, rfl, ?_⟩; have n0_ := Aside0.mk (Kd.R_below (by (with_reducible repeat (first | apply Kd.R_alloc | apply Kd.R_drewN | apply Kd.R_drew)); exact HO_6.out) hb); have n1_ := Aside0.mk (below_step (by repeat (first | (with_reducible first | exact HB.out | apply below_alloc | apply pw_below_drewN | apply below_drew1) | exact HB.out)) hb); clear HO_6; clear HB; have HO_6 := n0_; have HB := n1_; clear n0_ n1_; (try clear hb); (try clear hb2); (try clear hk); (try clear hi)))
          go_ret
          exact ⟨by first | rfl | (simp [errW_none, errW_some] <;> rfl) | (simp [*, errW_none, errW_some] <;> rfl), by repeat (first | (with_reducible first | exact HB.out | apply below_alloc | apply pw_below_drewN | apply below_drew1) | exact HB.out)⟩

/-- THE ONE PURE STATEMENT of flywheellaw11_NackShort: yours. -/
def flywheellaw11_NackShort.Pure : Prop := ∀ (a0 : Int) (a1 : Int), (Lit.int .u16 a0).wf = true → (Lit.int .i64 a1).wf = true → ∃ k, flywheellaw11_NackShort.f k a0 a1 = some true
theorem flywheellaw11_NackShort.walk (P : flywheellaw11_NackShort.Pure) (a0 : Int) (a1 : Int) (w : World) (w0 : (Lit.int .u16 a0).wf = true) (w1 : (Lit.int .i64 a1).wf = true) :
    Calls Try.prog 7 #[.int .u16 a0, .int .i64 a1] w fun e w' => e = .returned (.bool true) ∧ Below w.heap.size w w' := by
  obtain ⟨k, h⟩ := P a0 a1 w0 w1
  refine (flywheellaw11_NackShort.calls k a0 a1 true w h).mono ?_
  rintro e w' ⟨rfl, hd⟩
  exact ⟨rfl, hd⟩

end Go.Proofs.Ytnllbldfganfgaa.PNackShort
