-- Printed by a program of this session's (myprint.py) for this claim.
import Derived.Test.YtnllbldfganfgaaPNackDecodesx0
import Derived.Test.YtnllbldfganfgaaPNackDecodesx3
namespace Go.Proofs.Ytnllbldfganfgaa.PNackDecodes
open Go.RowKit Go.Proofs.YtnllbldfganfgaaW.PrintWords Go.Proofs.YtnllbldfganfgaaW.PrintLast Go.Proofs.YtnllbldfganfgaaW.PrintMore
attribute [local go_sem] max2_int min2_int max_two min_two max_three min_three max_four min_four   -- for this text's walks alone
set_option linter.unusedVariables false
set_option linter.unusedSimpArgs false

/-! ### flywheelref06_Reader_Get: function 30 -/
mutual
def flywheelref06_Reader_Get.j0 : Nat → Int → Bool → ByteArray → Int → Bool → Option (Int × ByteArray × Int × Bool)
  | 0, _, _, _, _, _ => none
  | k + 1, x1, x33, x1000, x1001, x1002 => if x33 = true then (some (0, x1000, x1001, true)) else (flywheelref06_Reader_Get.l0 k x1 0 0 x1000 x1001 x1002)
def flywheelref06_Reader_Get.l0 : Nat → Int → Int → Int → ByteArray → Int → Bool → Option (Int × ByteArray × Int × Bool)
  | 0, _, _, _, _, _, _ => none
  | k + 1, x1, x5, x6, x1000, x1001, x1002 => if x6 < x1 then (if 0 ≤ (wrap64 (Int.tdiv x1001 8)) then (if (wrap64 (Int.tdiv x1001 8)) < (x1000.size : Int) then (if 0 ≤ (IntKind.u64.wrap (wrap64 (7 - (Int.tmod x1001 8)))) then (flywheelref06_Reader_Get.l0 k x1 ((((x5 * 2) % 4294967296) + ((Go.bits .and .u8 (shr .u8 (bt x1000 (wrap64 (Int.tdiv x1001 8))) (IntKind.u64.wrap (wrap64 (7 - (Int.tmod x1001 8))))) 1) % 4294967296)) % 4294967296) (wrap64 (x6 + 1)) x1000 (wrap64 (x1001 + 1)) x1002) else (none)) else (none)) else (none)) else (some (x5, x1000, x1001, x1002))
end
def flywheelref06_Reader_Get.f (k : Nat) (s0_0 : ByteArray) (s0_1 : Int) (s0_2 : Bool) (a1 : Int) : Option (Int × ByteArray × Int × Bool) := if s0_2 = true then (flywheelref06_Reader_Get.j0 k a1 true s0_0 s0_1 s0_2) else (if a1 < 0 then (flywheelref06_Reader_Get.j0 k a1 true s0_0 s0_1 s0_2) else (if a1 > 32 then (flywheelref06_Reader_Get.j0 k a1 true s0_0 s0_1 s0_2) else (flywheelref06_Reader_Get.j0 k a1 (decide (a1 > (wrap64 ((wrap64 (8 * (s0_0.size : Int))) - s0_1)))) s0_0 s0_1 s0_2)))
theorem flywheelref06_Reader_Get.mono_l : ∀ k, (∀ y0 y1 y2 y3 y4, LeO (flywheelref06_Reader_Get.j0 k y0 y1 y2 y3 y4) (flywheelref06_Reader_Get.j0 (k + 1) y0 y1 y2 y3 y4)) ∧ (∀ y0 y1 y2 y3 y4 y5, LeO (flywheelref06_Reader_Get.l0 k y0 y1 y2 y3 y4 y5) (flywheelref06_Reader_Get.l0 (k + 1) y0 y1 y2 y3 y4 y5))
  | 0 => ⟨fun _ _ _ _ _ r h => by simp [flywheelref06_Reader_Get.j0] at h, fun _ _ _ _ _ _ r h => by simp [flywheelref06_Reader_Get.l0] at h⟩
  | k + 1 => by
    obtain ⟨ih0, ih1⟩ := flywheelref06_Reader_Get.mono_l k
    refine ⟨?_, ?_⟩
    · intro y0 y1 y2 y3 y4
      unfold flywheelref06_Reader_Get.j0
      repeat' first
      | (with_reducible exact ih0 _ _ _ _ _)
      | (with_reducible exact ih1 _ _ _ _ _ _)
      | (with_reducible exact LeO.refl _)
      | (with_reducible exact LeO.none _)
      | (with_reducible refine LeO.ite ?_ ?_)
      | (with_reducible refine LeO.bind ?_ (fun _ => ?_))
      | exact ih0 _ _ _ _ _
      | exact ih1 _ _ _ _ _ _
      | exact LeO.none _
      | refine LeO.ite ?_ ?_
      | refine LeO.bind ?_ (fun _ => ?_)
    · intro y0 y1 y2 y3 y4 y5
      unfold flywheelref06_Reader_Get.l0
      repeat' first
      | (with_reducible exact ih0 _ _ _ _ _)
      | (with_reducible exact ih1 _ _ _ _ _ _)
      | (with_reducible exact LeO.refl _)
      | (with_reducible exact LeO.none _)
      | (with_reducible refine LeO.ite ?_ ?_)
      | (with_reducible refine LeO.bind ?_ (fun _ => ?_))
      | exact ih0 _ _ _ _ _
      | exact ih1 _ _ _ _ _ _
      | exact LeO.none _
      | refine LeO.ite ?_ ?_
      | refine LeO.bind ?_ (fun _ => ?_)
theorem flywheelref06_Reader_Get.mono : ∀ a0 a1 a2 a3 k, LeO (flywheelref06_Reader_Get.f k a0 a1 a2 a3) (flywheelref06_Reader_Get.f (k + 1) a0 a1 a2 a3) := by
  intro a0 a1 a2 a3 k
  obtain ⟨ih0, ih1⟩ := flywheelref06_Reader_Get.mono_l k
  unfold flywheelref06_Reader_Get.f
  repeat' first
      | (with_reducible exact ih0 _ _ _ _ _)
      | (with_reducible exact ih1 _ _ _ _ _ _)
      | (with_reducible exact LeO.refl _)
      | (with_reducible exact LeO.none _)
      | (with_reducible refine LeO.ite ?_ ?_)
      | (with_reducible refine LeO.bind ?_ (fun _ => ?_))
      | exact ih0 _ _ _ _ _
      | exact ih1 _ _ _ _ _ _
      | exact LeO.none _
      | refine LeO.ite ?_ ?_
      | refine LeO.bind ?_ (fun _ => ?_)
set_option maxHeartbeats 8000000 in
set_option maxRecDepth 100000 in
theorem flywheelref06_Reader_Get.calls (k : Nat) (g : Nat) (s0_0 : ByteArray) (s0_1 : Int) (s0_2 : Bool) (a1 : Int) (r1 : Int) (r2 : ByteArray) (r3 : Int) (r4 : Bool) (w0 w : World) (hI : IsS75 w0 w g s0_0 s0_1 s0_2) (hB : Below w0.heap.size w0 w) (h : flywheelref06_Reader_Get.f k s0_0 s0_1 s0_2 a1 = some (r1, r2, r3, r4)) :
    Calls Try.prog 30 #[.pointer (some ⟨g, 0, none⟩), .int .i64 a1] w fun e w' => e = .returned (.int .u32 r1) ∧ IsS75 w0 w' g r2 r3 r4 ∧ Below w0.heap.size w0 w' ∧ KeepBut w w' g none := by
  have HI0 := Aside0.mk hI
  have HK := Aside0.mk (KeepBut.refl w g none)
  have HL := Aside0.mk hB.size
  clear hI
  have HW0 := Aside0.mk hB.size
  have HB := Aside0.mk hB
  clear hB
  have H : (if s0_2 = true then (flywheelref06_Reader_Get.j0 k a1 true s0_0 s0_1 s0_2) else (if a1 < 0 then (flywheelref06_Reader_Get.j0 k a1 true s0_0 s0_1 s0_2) else (if a1 > 32 then (flywheelref06_Reader_Get.j0 k a1 true s0_0 s0_1 s0_2) else (flywheelref06_Reader_Get.j0 k a1 (decide (a1 > (wrap64 ((wrap64 (8 * (s0_0.size : Int))) - s0_1)))) s0_0 s0_1 s0_2)))) = some (r1, r2, r3, r4) := h
  clear h
  have HC3 := Aside0.mk H
  clear H
  go_enter Try.func30, Try.ntmps30
  go_upto_region 1 with (fail)
  repeat (go_quiet (fail); go_upto_region 1 with (fail))
  go_cut [33] (fun v33 wc => ∃ (kq : Nat) (x33_2 : Bool), v33 = .bool x33_2 ∧ Aside0 (flywheelref06_Reader_Get.j0 kq a1 x33_2 s0_0 s0_1 s0_2 = some (r1, r2, r3, r4)) ∧ Aside0 (kq ≤ k) ∧ Aside0 (IsS75 w0 wc g s0_0 s0_1 s0_2) ∧ Aside0 (KeepBut w wc g none) ∧ Aside0 (Below w0.heap.size w0 wc))
  case first =>
    have H := HC3.out
    clear HC3
    by_cases c4 : s0_2 = true
    · subst c4
      have H1 : (flywheelref06_Reader_Get.j0 k a1 true s0_0 s0_1 true) = some (r1, r2, r3, r4) := by rw [if_pos rfl] at H; exact H
      clear H
      have H := H1
      clear H1
      have H' := Aside0.mk H
      clear H
      obtain ⟨HGz5, hgz5⟩ := HI0.out
      have hcz5_0 := cellS75_0 HGz5
      have hcz5_1 := cellS75_1 HGz5
      have hcz5_2 := cellS75_2 HGz5
      have hfz5_0 := blk_frozen HGz5 0
      have hfz5_1 := blk_frozen HGz5 1
      have hfz5_2 := blk_frozen HGz5 2
      clear HGz5 hgz5
      go_wp2
      repeat (go_quiet (fail); try go_wp2)
      go_meet
      case rel => exact ⟨_, (true), (by first | rfl | (simp; done) | (simp [*]; done)), H', ⟨by first | omega | exact Nat.le_refl _⟩, ⟨by repeat (first | (with_reducible first | exact HI0.out | apply IsS75.alloc | apply IsS75.drewN | apply IsS75.drew | apply IsS75.set_0 | apply IsS75.set_1 | apply IsS75.set_2) | exact HI0.out)⟩, ⟨by repeat (first | (with_reducible first | exact HK.out | apply KeepBut.set_ | apply keep_drewN | apply keep_drew | apply keep_alloc) | exact HK.out)⟩, ⟨by repeat (first | (with_reducible first | exact HB.out | apply below_alloc | apply pw_below_drewN | apply below_drew1 | refine below_set ?_ (IsS75.ge HI0.out)) | exact HB.out)⟩⟩
    · replace c4 := Bool.eq_false_iff.mpr c4
      subst c4
      have H1 : (if a1 < 0 then (flywheelref06_Reader_Get.j0 k a1 true s0_0 s0_1 false) else (if a1 > 32 then (flywheelref06_Reader_Get.j0 k a1 true s0_0 s0_1 false) else (flywheelref06_Reader_Get.j0 k a1 (decide (a1 > (wrap64 ((wrap64 (8 * (s0_0.size : Int))) - s0_1)))) s0_0 s0_1 false))) = some (r1, r2, r3, r4) := by rw [if_neg (show ¬ (false = true) by decide)] at H; exact H
      clear H
      have H := H1
      clear H1
      by_cases c6 : a1 < 0
      · rw [if_pos c6] at H
        have c6b0 : decide (a1 < 0) = true := decide_eq_true c6
        clear c6
        (first | rw [c6b0] | (simp only [i64_w, i32_w]; rw [c6b0]) | skip)
        have H' := Aside0.mk H
        clear H
        obtain ⟨HGz7, hgz7⟩ := HI0.out
        have hcz7_0 := cellS75_0 HGz7
        have hcz7_1 := cellS75_1 HGz7
        have hcz7_2 := cellS75_2 HGz7
        have hfz7_0 := blk_frozen HGz7 0
        have hfz7_1 := blk_frozen HGz7 1
        have hfz7_2 := blk_frozen HGz7 2
        clear HGz7 hgz7
        go_wp2
        repeat (go_quiet (fail); try go_wp2)
        go_meet
        case rel => exact ⟨_, (true), (by first | rfl | (simp; done) | (simp [*]; done)), H', ⟨by first | omega | exact Nat.le_refl _⟩, ⟨by repeat (first | (with_reducible first | exact HI0.out | apply IsS75.alloc | apply IsS75.drewN | apply IsS75.drew | apply IsS75.set_0 | apply IsS75.set_1 | apply IsS75.set_2) | exact HI0.out)⟩, ⟨by repeat (first | (with_reducible first | exact HK.out | apply KeepBut.set_ | apply keep_drewN | apply keep_drew | apply keep_alloc) | exact HK.out)⟩, ⟨by repeat (first | (with_reducible first | exact HB.out | apply below_alloc | apply pw_below_drewN | apply below_drew1 | refine below_set ?_ (IsS75.ge HI0.out)) | exact HB.out)⟩⟩
      · rw [if_neg c6] at H
        have c6b0 : decide (a1 < 0) = false := decide_eq_false c6
        clear c6
        (first | rw [c6b0] | (simp only [i64_w, i32_w]; rw [c6b0]) | skip)
        by_cases c8 : a1 > 32
        · rw [if_pos c8] at H
          have c8b0 : decide (32 < a1) = true := decide_eq_true c8
          clear c8
          have H' := Aside0.mk H
          clear H
          obtain ⟨HGz9, hgz9⟩ := HI0.out
          have hcz9_0 := cellS75_0 HGz9
          have hcz9_1 := cellS75_1 HGz9
          have hcz9_2 := cellS75_2 HGz9
          have hfz9_0 := blk_frozen HGz9 0
          have hfz9_1 := blk_frozen HGz9 1
          have hfz9_2 := blk_frozen HGz9 2
          clear HGz9 hgz9
          go_wp2
          repeat (go_quiet (fail); try go_wp2)
          go_meet
          case rel => exact ⟨_, (true), (by first | rfl | (simp; done) | (simp [*]; done)), H', ⟨by first | omega | exact Nat.le_refl _⟩, ⟨by repeat (first | (with_reducible first | exact HI0.out | apply IsS75.alloc | apply IsS75.drewN | apply IsS75.drew | apply IsS75.set_0 | apply IsS75.set_1 | apply IsS75.set_2) | exact HI0.out)⟩, ⟨by repeat (first | (with_reducible first | exact HK.out | apply KeepBut.set_ | apply keep_drewN | apply keep_drew | apply keep_alloc) | exact HK.out)⟩, ⟨by repeat (first | (with_reducible first | exact HB.out | apply below_alloc | apply pw_below_drewN | apply below_drew1 | refine below_set ?_ (IsS75.ge HI0.out)) | exact HB.out)⟩⟩
        · rw [if_neg c8] at H
          have c8b0 : decide (32 < a1) = false := decide_eq_false c8
          clear c8
          have H' := Aside0.mk H
          clear H
          obtain ⟨HGz10, hgz10⟩ := HI0.out
          have hcz10_0 := cellS75_0 HGz10
          have hcz10_1 := cellS75_1 HGz10
          have hcz10_2 := cellS75_2 HGz10
          have hfz10_0 := blk_frozen HGz10 0
          have hfz10_1 := blk_frozen HGz10 1
          have hfz10_2 := blk_frozen HGz10 2
          clear HGz10 hgz10
          go_wp2
          repeat (go_quiet (fail); try go_wp2)
          go_meet
          case rel => exact ⟨_, (decide (a1 > (wrap64 ((wrap64 (8 * (s0_0.size : Int))) - s0_1)))), (by first | rfl | (simp; done) | (simp [*]; done)), H', ⟨by first | omega | exact Nat.le_refl _⟩, ⟨by repeat (first | (with_reducible first | exact HI0.out | apply IsS75.alloc | apply IsS75.drewN | apply IsS75.drew | apply IsS75.set_0 | apply IsS75.set_1 | apply IsS75.set_2) | exact HI0.out)⟩, ⟨by repeat (first | (with_reducible first | exact HK.out | apply KeepBut.set_ | apply keep_drewN | apply keep_drew | apply keep_alloc) | exact HK.out)⟩, ⟨by repeat (first | (with_reducible first | exact HB.out | apply below_alloc | apply pw_below_drewN | apply below_drew1 | refine below_set ?_ (IsS75.ge HI0.out)) | exact HB.out)⟩⟩
  case rest =>
    clear HC3
    try clear p2
    try clear c3
    try clear c4
    try clear c6
    try clear c6b0
    try clear p6
    try clear c8
    try clear c8b0
    try clear hcz10_0
    try clear hcz10_1
    try clear hcz10_2
    try clear hcz5_0
    try clear hcz5_1
    try clear hcz5_2
    try clear hcz7_0
    try clear hcz7_1
    try clear hcz7_2
    try clear hcz9_0
    try clear hcz9_1
    try clear hcz9_2
    try clear hfz10_0
    try clear hfz10_1
    try clear hfz10_2
    try clear hfz5_0
    try clear hfz5_1
    try clear hfz5_2
    try clear hfz7_0
    try clear hfz7_1
    try clear hfz7_2
    try clear hfz9_0
    try clear hfz9_1
    try clear hfz9_2
    obtain ⟨kq, x33_2, rfl, HA, HJ2, HI0, HK, HB⟩ := hcut
    cases kq with
    | zero => exact absurd HA.out (by simp [flywheelref06_Reader_Get.j0])
    | succ kj2 =>
      have H := HA.out
      clear HA
      simp only [flywheelref06_Reader_Get.j0] at H
      by_cases c11 : x33_2 = true
      · subst c11
        have H1 : (some (0, s0_0, s0_1, true)) = some (r1, r2, r3, r4) := by rw [if_pos rfl] at H; exact H
        clear H
        have H := H1
        clear H1
        simp only [Option.some.injEq, Prod.mk.injEq] at H
        obtain ⟨rfl, rfl, rfl, rfl⟩ := H
        obtain ⟨HGz12, hgz12⟩ := HI0.out
        have hcz12_0 := cellS75_0 HGz12
        have hcz12_1 := cellS75_1 HGz12
        have hcz12_2 := cellS75_2 HGz12
        have hfz12_0 := blk_frozen HGz12 0
        have hfz12_1 := blk_frozen HGz12 1
        have hfz12_2 := blk_frozen HGz12 2
        clear HGz12 hgz12
        go_wp2
        repeat (go_quiet (fail); try go_wp2)
        go_ret
        exact ⟨by first | rfl | (simp [errW_none, errW_some] <;> rfl) | (simp [*, errW_none, errW_some] <;> rfl), by repeat (first | (with_reducible first | exact HI0.out | apply IsS75.alloc | apply IsS75.drewN | apply IsS75.drew | apply IsS75.set_0 | apply IsS75.set_1 | apply IsS75.set_2) | exact HI0.out), by repeat (first | (with_reducible first | exact HB.out | apply below_alloc | apply pw_below_drewN | apply below_drew1 | refine below_set ?_ (IsS75.ge HI0.out)) | exact HB.out), by repeat (first | (with_reducible first | exact HK.out | apply KeepBut.set_ | apply keep_drewN | apply keep_drew | apply keep_alloc) | exact HK.out)⟩
      · replace c11 := Bool.eq_false_iff.mpr c11
        subst c11
        have H1 : (flywheelref06_Reader_Get.l0 kj2 a1 0 0 s0_0 s0_1 s0_2) = some (r1, r2, r3, r4) := by rw [if_neg (show ¬ (false = true) by decide)] at H; exact H
        clear H
        have H := H1
        clear H1
        have H' := Aside0.mk H
        clear H
        go_wp2
        repeat (go_quiet (fail); try go_wp2)
        go_loopg [5, 6] kj2 (fun kq v5 v6 w' => ∃ (x5_2 : Int) (x6_2 : Int) (x1001_2 : Int), v5 = .int .u32 x5_2 ∧ v6 = .int .i64 x6_2 ∧ Aside0 (flywheelref06_Reader_Get.l0 kq a1 x5_2 x6_2 s0_0 x1001_2 s0_2 = some (r1, r2, r3, r4)) ∧ Aside0 (kq ≤ kj2) ∧ Aside0 (IsS75 w0 w' g s0_0 x1001_2 s0_2) ∧ Aside0 (KeepBut w w' g none) ∧ Aside0 (Below w0.heap.size w0 w'))
        case atStart => exact ⟨(0), (0), (s0_1), (by first | rfl | (simp; done) | (simp [*]; done)), (by first | rfl | (simp; done) | (simp [*]; done)), H', ⟨Nat.le_refl _⟩, ⟨by repeat (first | (with_reducible first | exact HI0.out | apply IsS75.alloc | apply IsS75.drewN | apply IsS75.drew | apply IsS75.set_0 | apply IsS75.set_1 | apply IsS75.set_2) | exact HI0.out)⟩, ⟨by repeat (first | (with_reducible first | exact HK.out | apply KeepBut.set_ | apply keep_drewN | apply keep_drew | apply keep_alloc) | exact HK.out)⟩, ⟨by repeat (first | (with_reducible first | exact HB.out | apply below_alloc | apply pw_below_drewN | apply below_drew1 | refine below_set ?_ (IsS75.ge HI0.out)) | exact HB.out)⟩⟩
        case round =>
          clear H'
          try clear c1
          try clear p2
          try clear c3
          try clear c4
          try clear c6
          try clear c6b0
          try clear p6
          try clear c8
          try clear c8b0
          try clear c11
          try clear hcz10_0
          try clear hcz10_1
          try clear hcz10_2
          try clear hcz12_0
          try clear hcz12_1
          try clear hcz12_2
          try clear hcz5_0
          try clear hcz5_1
          try clear hcz5_2
          try clear hcz7_0
          try clear hcz7_1
          try clear hcz7_2
          try clear hcz9_0
          try clear hcz9_1
          try clear hcz9_2
          try clear hfz10_0
          try clear hfz10_1
          try clear hfz10_2
          try clear hfz12_0
          try clear hfz12_1
          try clear hfz12_2
          try clear hfz5_0
          try clear hfz5_1
          try clear hfz5_2
          try clear hfz7_0
          try clear hfz7_1
          try clear hfz7_2
          try clear hfz9_0
          try clear hfz9_1
          try clear hfz9_2
          try clear p2
          try clear p6
          obtain ⟨x5_2, x6_2, x1001_2, rfl, rfl, HA, HK2, HI0, HK, HB⟩ := hrel
          cases gk with
          | zero => exact absurd HA.out (by simp [flywheelref06_Reader_Get.l0])
          | succ k2 =>
            have H := HA.out
            clear HA
            simp only [flywheelref06_Reader_Get.l0] at H
            by_cases c13 : x6_2 < a1
            · rw [if_pos c13] at H
              have c13b0 : decide (x6_2 < a1) = true := decide_eq_true c13
              clear c13
              obtain ⟨ji14, hji14⟩ : ∃ j_ : Int, (wrap64 (Int.tdiv x1001_2 8)) = j_ := ⟨_, rfl⟩
              replace H : (if 0 ≤ (ji14) then (if (ji14) < (s0_0.size : Int) then (if 0 ≤ (IntKind.u64.wrap (wrap64 (7 - (Int.tmod x1001_2 8)))) then (flywheelref06_Reader_Get.l0 k2 a1 ((((x5_2 * 2) % 4294967296) + ((Go.bits .and .u8 (shr .u8 (bt s0_0 (ji14)) (IntKind.u64.wrap (wrap64 (7 - (Int.tmod x1001_2 8))))) 1) % 4294967296)) % 4294967296) (wrap64 (x6_2 + 1)) s0_0 (wrap64 (x1001_2 + 1)) s0_2) else (none)) else (none)) else (none)) = some (r1, r2, r3, r4) := by first | (rw [hji14] at H; exact H) | (simp only [hji14] at H ⊢; exact H)
              have hji14w : (IntKind.i64.wrap (Int.tdiv x1001_2 8)) = ji14 := (i64_w _).trans hji14
              by_cases c15 : 0 ≤ (ji14)
              · rw [if_pos c15] at H
                have c15b0 : decide (0 ≤ (ji14)) = true := decide_eq_true c15
                clear c15
                by_cases c16 : (ji14) < (s0_0.size : Int)
                · rw [if_pos c16] at H
                  have c16b0 : decide ((ji14) < (s0_0.size : Int)) = true := decide_eq_true c16
                  clear c16
                  obtain ⟨ji18, hji18⟩ : ∃ j_ : Int, (IntKind.u64.wrap (wrap64 (7 - (Int.tmod x1001_2 8)))) = j_ := ⟨_, rfl⟩
                  replace H : (if 0 ≤ (ji18) then (flywheelref06_Reader_Get.l0 k2 a1 ((((x5_2 * 2) % 4294967296) + ((Go.bits .and .u8 (shr .u8 (bt s0_0 (ji14)) (ji18)) 1) % 4294967296)) % 4294967296) (wrap64 (x6_2 + 1)) s0_0 (wrap64 (x1001_2 + 1)) s0_2) else (none)) = some (r1, r2, r3, r4) := by first | (rw [hji18] at H; exact H) | (simp only [hji18] at H ⊢; exact H)
                  by_cases c19 : 0 ≤ (ji18)
                  · rw [if_pos c19] at H
                    have c19b0 := eq_true c19
                    have c19b1 : decide (0 ≤ (ji18)) = true := decide_eq_true c19
                    clear c19
                    obtain ⟨ji20, hji20⟩ : ∃ j_ : Int, (shr .u8 (bt s0_0 (ji14)) (ji18)) = j_ := ⟨_, rfl⟩
                    replace H : (flywheelref06_Reader_Get.l0 k2 a1 ((((x5_2 * 2) % 4294967296) + ((Go.bits .and .u8 (ji20) 1) % 4294967296)) % 4294967296) (wrap64 (x6_2 + 1)) s0_0 (wrap64 (x1001_2 + 1)) s0_2) = some (r1, r2, r3, r4) := by first | (rw [hji20] at H; exact H) | (simp only [hji20] at H ⊢; exact H)
                    have hji20_ : ((bt s0_0 (ji14)) / 2 ^ min (ji18).toNat 8) = ji20 := hji20
                    have hji20z : (ji18) ≤ 8 → ((bt s0_0 (ji14)) / 2 ^ (ji18).toNat) = ji20 := shr_small hji20
                    have H' := Aside0.mk H
                    clear H
                    obtain ⟨HGz21, hgz21⟩ := HI0.out
                    have hcz21_0 := cellS75_0 HGz21
                    have hcz21_1 := cellS75_1 HGz21
                    have hcz21_2 := cellS75_2 HGz21
                    have hfz21_0 := blk_frozen HGz21 0
                    have hfz21_1 := blk_frozen HGz21 1
                    have hfz21_2 := blk_frozen HGz21 2
                    clear HGz21 hgz21
                    have p17 : 0 ≤ ((ji14) : Int) := of_decide_eq_true (by first | (with_reducible assumption) | assumption)
                    have q17 : (ji14) < (s0_0.size : Int) := of_decide_eq_true (by first | (with_reducible assumption) | assumption)
                    have hx17 := bt_at s0_0 (ji14)
                    replace p17 := eq_true p17
                    replace q17 := eq_true q17
                    go_wp2
                    repeat (go_quiet (fail); try go_wp2)
                    go_roundg k2
                    case measure => have := HJ2.out; have := HK2.out; omega
                    case rel => exact ⟨((((x5_2 * 2) % 4294967296) + ((Go.bits .and .u8 (ji20) 1) % 4294967296)) % 4294967296), (wrap64 (x6_2 + 1)), (wrap64 (x1001_2 + 1)), (by first | rfl | (simp; done) | (simp only [← hji20] <;> (first | rfl | simp)) | (simp [*]; done)), (by first | rfl | (simp; done) | (simp [*]; done)), H', ⟨by have := HJ2.out; have := HK2.out; omega⟩, ⟨by repeat (first | (with_reducible first | exact HI0.out | apply IsS75.alloc | apply IsS75.drewN | apply IsS75.drew | apply IsS75.set_0 | apply IsS75.set_1 | apply IsS75.set_2) | exact HI0.out)⟩, ⟨by repeat (first | (with_reducible first | exact HK.out | apply KeepBut.set_ | apply keep_drewN | apply keep_drew | apply keep_alloc) | exact HK.out)⟩, ⟨by repeat (first | (with_reducible first | exact HB.out | apply below_alloc | apply pw_below_drewN | apply below_drew1 | refine below_set ?_ (IsS75.ge HI0.out)) | exact HB.out)⟩⟩
                  · rw [if_neg c19] at H
                    exact absurd H (by simp)
                · rw [if_neg c16] at H
                  exact absurd H (by simp)
              · rw [if_neg c15] at H
                exact absurd H (by simp)
            · rw [if_neg c13] at H
              have c13b0 : decide (x6_2 < a1) = false := decide_eq_false c13
              clear c13
              simp only [Option.some.injEq, Prod.mk.injEq] at H
              obtain ⟨rfl, rfl, rfl, rfl⟩ := H
              go_wp2
              repeat (go_quiet (fail); try go_wp2)
              go_ret
              exact ⟨by first | rfl | (simp [errW_none, errW_some] <;> rfl) | (simp [*, errW_none, errW_some] <;> rfl), by repeat (first | (with_reducible first | exact HI0.out | apply IsS75.alloc | apply IsS75.drewN | apply IsS75.drew | apply IsS75.set_0 | apply IsS75.set_1 | apply IsS75.set_2) | exact HI0.out), by repeat (first | (with_reducible first | exact HB.out | apply below_alloc | apply pw_below_drewN | apply below_drew1 | refine below_set ?_ (IsS75.ge HI0.out)) | exact HB.out), by repeat (first | (with_reducible first | exact HK.out | apply KeepBut.set_ | apply keep_drewN | apply keep_drew | apply keep_alloc) | exact HK.out)⟩

/-! ### flywheelref06_Reader_Left: function 31 -/
def flywheelref06_Reader_Left.f (s0_0 : ByteArray) (s0_1 : Int) (s0_2 : Bool) : Option (Int × ByteArray × Int × Bool) := if s0_2 = true then (some (0, s0_0, s0_1, s0_2)) else (some (wrap64 ((wrap64 (8 * (s0_0.size : Int))) - s0_1), s0_0, s0_1, s0_2))
set_option maxHeartbeats 8000000 in
set_option maxRecDepth 100000 in
theorem flywheelref06_Reader_Left.calls (g : Nat) (s0_0 : ByteArray) (s0_1 : Int) (s0_2 : Bool) (r1 : Int) (r2 : ByteArray) (r3 : Int) (r4 : Bool) (w0 w : World) (hI : IsS75 w0 w g s0_0 s0_1 s0_2) (hB : Below w0.heap.size w0 w) (h : flywheelref06_Reader_Left.f s0_0 s0_1 s0_2 = some (r1, r2, r3, r4)) :
    Calls Try.prog 31 #[.pointer (some ⟨g, 0, none⟩)] w fun e w' => e = .returned (.int .i64 r1) ∧ IsS75 w0 w' g r2 r3 r4 ∧ Below w0.heap.size w0 w' ∧ KeepBut w w' g none := by
  have HI0 := Aside0.mk hI
  have HK := Aside0.mk (KeepBut.refl w g none)
  have HL := Aside0.mk hB.size
  clear hI
  have HW0 := Aside0.mk hB.size
  have HB := Aside0.mk hB
  clear hB
  have H : (if s0_2 = true then (some (0, s0_0, s0_1, s0_2)) else (some (wrap64 ((wrap64 (8 * (s0_0.size : Int))) - s0_1), s0_0, s0_1, s0_2))) = some (r1, r2, r3, r4) := h
  clear h
  by_cases c2 : s0_2 = true
  · subst c2
    have H1 : (some (0, s0_0, s0_1, true)) = some (r1, r2, r3, r4) := by rw [if_pos rfl] at H; exact H
    clear H
    have H := H1
    clear H1
    simp only [Option.some.injEq, Prod.mk.injEq] at H
    obtain ⟨rfl, rfl, rfl, rfl⟩ := H
    obtain ⟨HGz3, hgz3⟩ := HI0.out
    have hcz3_0 := cellS75_0 HGz3
    have hcz3_1 := cellS75_1 HGz3
    have hcz3_2 := cellS75_2 HGz3
    have hfz3_0 := blk_frozen HGz3 0
    have hfz3_1 := blk_frozen HGz3 1
    have hfz3_2 := blk_frozen HGz3 2
    clear HGz3 hgz3
    go_enter Try.func31, Try.ntmps31
    go_wp2
    repeat (go_quiet (fail); try go_wp2)
    go_ret
    exact ⟨by first | rfl | (simp [errW_none, errW_some] <;> rfl) | (simp [*, errW_none, errW_some] <;> rfl), by repeat (first | (with_reducible first | exact HI0.out | apply IsS75.alloc | apply IsS75.drewN | apply IsS75.drew | apply IsS75.set_0 | apply IsS75.set_1 | apply IsS75.set_2) | exact HI0.out), by repeat (first | (with_reducible first | exact HB.out | apply below_alloc | apply pw_below_drewN | apply below_drew1 | refine below_set ?_ (IsS75.ge HI0.out)) | exact HB.out), by repeat (first | (with_reducible first | exact HK.out | apply KeepBut.set_ | apply keep_drewN | apply keep_drew | apply keep_alloc) | exact HK.out)⟩
  · replace c2 := Bool.eq_false_iff.mpr c2
    subst c2
    have H1 : (some (wrap64 ((wrap64 (8 * (s0_0.size : Int))) - s0_1), s0_0, s0_1, false)) = some (r1, r2, r3, r4) := by rw [if_neg (show ¬ (false = true) by decide)] at H; exact H
    clear H
    have H := H1
    clear H1
    simp only [Option.some.injEq, Prod.mk.injEq] at H
    obtain ⟨rfl, rfl, rfl, rfl⟩ := H
    obtain ⟨HGz4, hgz4⟩ := HI0.out
    have hcz4_0 := cellS75_0 HGz4
    have hcz4_1 := cellS75_1 HGz4
    have hcz4_2 := cellS75_2 HGz4
    have hfz4_0 := blk_frozen HGz4 0
    have hfz4_1 := blk_frozen HGz4 1
    have hfz4_2 := blk_frozen HGz4 2
    clear HGz4 hgz4
    go_enter Try.func31, Try.ntmps31
    go_wp2
    repeat (go_quiet (fail); try go_wp2)
    go_ret
    exact ⟨by first | rfl | (simp [errW_none, errW_some] <;> rfl) | (simp [*, errW_none, errW_some] <;> rfl), by repeat (first | (with_reducible first | exact HI0.out | apply IsS75.alloc | apply IsS75.drewN | apply IsS75.drew | apply IsS75.set_0 | apply IsS75.set_1 | apply IsS75.set_2) | exact HI0.out), by repeat (first | (with_reducible first | exact HB.out | apply below_alloc | apply pw_below_drewN | apply below_drew1 | refine below_set ?_ (IsS75.ge HI0.out)) | exact HB.out), by repeat (first | (with_reducible first | exact HK.out | apply KeepBut.set_ | apply keep_drewN | apply keep_drew | apply keep_alloc) | exact HK.out)⟩

/-! ### flywheelref11_Decode: function 14 -/
mutual
def flywheelref11_Decode.l0 : Nat → ByteArray → Int → Bool → Int → Int → List Int → Option (Int × Int × List Int × Int)
  | 0, _, _, _, _, _, _ => none
  | k + 1, x137000, x137001, x137002, x146000, x146001, x146002 => (flywheelref06_Reader_Left.f x137000 x137001 x137002).bind fun bt146 => (if bt146.1 > 0 then ((flywheelref06_Reader_Get.f k bt146.2.1 bt146.2.2.1 bt146.2.2.2 16).bind fun bt150 => ((flywheelref06_Reader_Get.f k bt150.2.1 bt150.2.2.1 bt150.2.2.2 16).bind fun bt154 => (if x146002.length < 17592186044416 then (flywheelref11_Decode.l1 k (wrap64 (bt150.1)) bt154.1 0 bt154.2.1 bt154.2.2.1 bt154.2.2.2 x146000 x146001 (x146002 ++ [wrap64 (bt150.1)])) else (none)))) else (if (x146002.length : Int) > 4096 then (some (0, 0, ([] : List Int), 3)) else ((flywheelref11_Good.f x146002).bind fun t164 => (if t164 = true then (some (x146000, x146001, x146002, 0)) else (some (0, 0, ([] : List Int), 110))))))
def flywheelref11_Decode.l1 : Nat → Int → Int → Int → ByteArray → Int → Bool → Int → Int → List Int → Option (Int × Int × List Int × Int)
  | 0, _, _, _, _, _, _, _, _, _ => none
  | k + 1, x6, x7, x8, x137000, x137001, x137002, x146000, x146001, x146002 => if x8 < 16 then (if 0 ≤ (IntKind.u64.wrap (x8)) then (if (Go.bits .and .u32 (shr .u32 x7 (IntKind.u64.wrap (x8))) 1) = 1 then (if x146002.length < 17592186044416 then (flywheelref11_Decode.l1 k x6 x7 (wrap64 (x8 + 1)) x137000 x137001 x137002 x146000 x146001 (x146002 ++ [Int.tmod (wrap64 ((wrap64 (x6 + x8)) + 1)) 65536])) else (none)) else (flywheelref11_Decode.l1 k x6 x7 (wrap64 (x8 + 1)) x137000 x137001 x137002 x146000 x146001 x146002)) else (none)) else (flywheelref11_Decode.l0 k x137000 x137001 x137002 x146000 x146001 x146002)
end
def flywheelref11_Decode.f (k : Nat) (a0 : ByteArray) : Option (Int × Int × List Int × Int) := if (a0.size : Int) > 65536 then (some (0, 0, ([] : List Int), 2)) else (if ((a0.size : Int) % 4) = 0 then (if (a0.size : Int) < 12 then (some (0, 0, ([] : List Int), 60)) else ((flywheelref06_Read.f a0).bind fun bt133 => ((flywheelref06_Reader_Get.f k bt133.1 bt133.2.1 bt133.2.2 32).bind fun bt137 => ((flywheelref06_Reader_Get.f k bt137.2.1 bt137.2.2.1 bt137.2.2.2 32).bind fun bt141 => (flywheelref11_Decode.l0 k bt141.2.1 bt141.2.2.1 bt141.2.2.2 bt137.1 bt141.1 ([] : List Int)))))) else (some (0, 0, ([] : List Int), 90)))
theorem flywheelref11_Decode.mono_l : ∀ k, (∀ y0 y1 y2 y3 y4 y5, LeO (flywheelref11_Decode.l0 k y0 y1 y2 y3 y4 y5) (flywheelref11_Decode.l0 (k + 1) y0 y1 y2 y3 y4 y5)) ∧ (∀ y0 y1 y2 y3 y4 y5 y6 y7 y8, LeO (flywheelref11_Decode.l1 k y0 y1 y2 y3 y4 y5 y6 y7 y8) (flywheelref11_Decode.l1 (k + 1) y0 y1 y2 y3 y4 y5 y6 y7 y8))
  | 0 => ⟨fun _ _ _ _ _ _ r h => by simp [flywheelref11_Decode.l0] at h, fun _ _ _ _ _ _ _ _ _ r h => by simp [flywheelref11_Decode.l1] at h⟩
  | k + 1 => by
    obtain ⟨ih0, ih1⟩ := flywheelref11_Decode.mono_l k
    refine ⟨?_, ?_⟩
    · intro y0 y1 y2 y3 y4 y5
      unfold flywheelref11_Decode.l0
      repeat' first
      | (with_reducible exact ih0 _ _ _ _ _ _)
      | (with_reducible exact ih1 _ _ _ _ _ _ _ _ _)
      | (with_reducible exact flywheelref06_Reader_Get.mono _ _ _ _ _)
      | (with_reducible exact LeO.refl _)
      | (with_reducible exact LeO.none _)
      | (with_reducible refine LeO.ite ?_ ?_)
      | (with_reducible refine LeO.bind ?_ (fun _ => ?_))
      | exact ih0 _ _ _ _ _ _
      | exact ih1 _ _ _ _ _ _ _ _ _
      | exact flywheelref06_Reader_Get.mono _ _ _ _ _
      | exact LeO.none _
      | refine LeO.ite ?_ ?_
      | refine LeO.bind ?_ (fun _ => ?_)
    · intro y0 y1 y2 y3 y4 y5 y6 y7 y8
      unfold flywheelref11_Decode.l1
      repeat' first
      | (with_reducible exact ih0 _ _ _ _ _ _)
      | (with_reducible exact ih1 _ _ _ _ _ _ _ _ _)
      | (with_reducible exact flywheelref06_Reader_Get.mono _ _ _ _ _)
      | (with_reducible exact LeO.refl _)
      | (with_reducible exact LeO.none _)
      | (with_reducible refine LeO.ite ?_ ?_)
      | (with_reducible refine LeO.bind ?_ (fun _ => ?_))
      | exact ih0 _ _ _ _ _ _
      | exact ih1 _ _ _ _ _ _ _ _ _
      | exact flywheelref06_Reader_Get.mono _ _ _ _ _
      | exact LeO.none _
      | refine LeO.ite ?_ ?_
      | refine LeO.bind ?_ (fun _ => ?_)
theorem flywheelref11_Decode.mono : ∀ a0 k, LeO (flywheelref11_Decode.f k a0) (flywheelref11_Decode.f (k + 1) a0) := by
  intro a0 k
  obtain ⟨ih0, ih1⟩ := flywheelref11_Decode.mono_l k
  unfold flywheelref11_Decode.f
  repeat' first
      | (with_reducible exact ih0 _ _ _ _ _ _)
      | (with_reducible exact ih1 _ _ _ _ _ _ _ _ _)
      | (with_reducible exact flywheelref06_Reader_Get.mono _ _ _ _ _)
      | (with_reducible exact LeO.refl _)
      | (with_reducible exact LeO.none _)
      | (with_reducible refine LeO.ite ?_ ?_)
      | (with_reducible refine LeO.bind ?_ (fun _ => ?_))
      | exact ih0 _ _ _ _ _ _
      | exact ih1 _ _ _ _ _ _ _ _ _
      | exact flywheelref06_Reader_Get.mono _ _ _ _ _
      | exact LeO.none _
      | refine LeO.ite ?_ ?_
      | refine LeO.bind ?_ (fun _ => ?_)
set_option maxHeartbeats 8000000 in
set_option maxRecDepth 100000 in
theorem flywheelref11_Decode.calls (k : Nat) (a0 : ByteArray) (r1 : Int) (r2 : Int) (r3 : List Int) (r4 : Int) (w : World) (h : flywheelref11_Decode.f k a0 = some (r1, r2, r3, r4)) :
    Calls Try.prog 14 #[.string a0] w fun e w' => ∃ v2_ : Value, e = .returned (.tuple #[.agg #[.int .u32 r1, .int .u32 r2, v2_], .int .i64 r4]) ∧ Kd.R (Kd.int .i64) 3 w' w.heap.size (fun _ => True) v2_ r3 ∧ Below w.heap.size w w' := by
  have hu25 := Try.underlying25
  have HB := Aside0.mk (Below.refl w.heap.size w)
  have H : (if (a0.size : Int) > 65536 then (some (0, 0, ([] : List Int), 2)) else (if ((a0.size : Int) % 4) = 0 then (if (a0.size : Int) < 12 then (some (0, 0, ([] : List Int), 60)) else ((flywheelref06_Read.f a0).bind fun bt133 => ((flywheelref06_Reader_Get.f k bt133.1 bt133.2.1 bt133.2.2 32).bind fun bt137 => ((flywheelref06_Reader_Get.f k bt137.2.1 bt137.2.2.1 bt137.2.2.2 32).bind fun bt141 => (flywheelref11_Decode.l0 k bt141.2.1 bt141.2.2.1 bt141.2.2.2 bt137.1 bt141.1 ([] : List Int)))))) else (some (0, 0, ([] : List Int), 90)))) = some (r1, r2, r3, r4) := h
  clear h
  by_cases c2 : (a0.size : Int) > 65536
  · rw [if_pos c2] at H
    have c2b0 : decide (65536 < (a0.size : Int)) = true := decide_eq_true c2
    have c2b1 : decide (65536 < a0.size) = true := decide_eq_true (by omega)
    clear c2
    simp only [Option.some.injEq, Prod.mk.injEq] at H
    obtain ⟨rfl, rfl, rfl, rfl⟩ := H
    go_enter Try.func14, Try.ntmps14
    go_wp2_with (first | ((with_reducible refine gate_dst (N := 2) rfl ?_); refine box_event ?hg (N := 2) ?hd (cs := #[.int .u32 0, .int .u32 0, .slice none 0 0]) (t := 25) ?hr ?_; (case hd => rfl); (case hg => rfl); (case hr => first | (go_simp; done) | (go_simp; rfl)); intro gb132 hg w3 hbox hb; have n0_ := Aside0.mk (below_step (by repeat (first | (with_reducible first | exact HB.out | apply below_alloc | apply pw_below_drewN | apply below_drew1) | exact HB.out)) hb); have n1_ := Aside0.mk (hbox); have n2_ := Aside0.mk ((by rw [hg]; exact (below_size (by repeat (first | (with_reducible first | exact HB.out | apply below_alloc | apply pw_below_drewN | apply below_drew1) | exact HB.out))) : w.heap.size ≤ gb132)); have n3_ := Aside0.mk ((by rw [hg]; exact (below_size (by repeat (first | (with_reducible first | exact HB.out | apply below_alloc | apply pw_below_drewN | apply below_drew1) | exact HB.out))) : w.heap.size ≤ gb132)); clear HB; have HB := n0_; have BK132 := n1_; have GW132 := n2_; have GE132 := n3_; clear n0_ n1_ n2_ n3_; clear hb hbox hg; have hcz4_0 : w3.cell? ⟨gb132, 0, none⟩ = some (.int .u32 0) := (blk_cell BK132.out 0).trans rfl; have hcz4_1 : w3.cell? ⟨gb132, 1, none⟩ = some (.int .u32 0) := (blk_cell BK132.out 1).trans rfl; have hcz4_2 : w3.cell? ⟨gb132, 2, none⟩ = some (.slice none 0 0) := (blk_cell BK132.out 2).trans rfl; have hfz4_0 := blk_frozen BK132.out 0; have hfz4_1 := blk_frozen BK132.out 1; have hfz4_2 := blk_frozen BK132.out 2))
    refine bodyPost_ret (results_ct rfl _ _ gb132 25 #[.int .u32 0, .int .u32 0, .slice none 0 0] (0, 0) _ rfl (by (with_reducible repeat (first | refine blk_drewN ?_ _ | refine blk_drew ?_ | refine blk_alloc ?_ _)); refine blk_put (cs := #[.int .u32 0, .int .u32 0, .slice none 0 0]) ?_ 2 _ rfl; (with_reducible repeat (first | refine blk_drewN ?_ _ | refine blk_drew ?_ | refine blk_alloc ?_ _)); refine blk_put (cs := #[.int .u32 0, .int .u32 0, .slice none 0 0]) ?_ 1 _ rfl; (with_reducible repeat (first | refine blk_drewN ?_ _ | refine blk_drew ?_ | refine blk_alloc ?_ _)); refine blk_put (cs := #[.int .u32 0, .int .u32 0, .slice none 0 0]) ?_ 0 _ rfl; (with_reducible repeat (first | refine blk_drewN ?_ _ | refine blk_drew ?_ | refine blk_alloc ?_ _)); exact BK132.out) Try.underlying25 rfl (by kernel_rfl)) rfl ?_
    exact ⟨_, by first | rfl | (simp [errW_none, errW_some] <;> rfl) | (simp [*, errW_none, errW_some] <;> rfl), by first | exact Kd.R_nil _ _ _ _ _ | exact Kd.N_nil _ _ _ _ _ | exact Kd.V_nil _ _ _ _ _ | exact Kd.Q_nil _ _ _ _ _ | exact Kd.S_nil _ _ _ _ _, by repeat (first | (with_reducible first | exact HB.out | apply below_alloc | apply pw_below_drewN | apply below_drew1 | refine below_set ?_ GE132.out) | exact HB.out)⟩
  · rw [if_neg c2] at H
    have c2b0 : decide (65536 < (a0.size : Int)) = false := decide_eq_false c2
    have c2b1 : decide (65536 < a0.size) = false := decide_eq_false (by omega)
    clear c2
    by_cases c5 : ((a0.size : Int) % 4) = 0
    · rw [if_pos c5] at H
      have c5b0 : (((a0.size : Int) % 4) == 0) = true := beq_iff_eq.mpr c5
      have c5b1 : (((a0.size : Int) % 4) != 0) = false := bne_eq_false_iff_eq.mpr c5
      clear c5
      by_cases c6 : (a0.size : Int) < 12
      · rw [if_pos c6] at H
        have c6b0 : decide ((a0.size : Int) < 12) = true := decide_eq_true c6
        have c6b1 : decide (a0.size < 12) = true := decide_eq_true (by omega)
        clear c6
        simp only [Option.some.injEq, Prod.mk.injEq] at H
        obtain ⟨rfl, rfl, rfl, rfl⟩ := H
        go_enter Try.func14, Try.ntmps14
        go_wp2_with (first | ((with_reducible refine gate_dst (N := 2) rfl ?_); refine box_event ?hg (N := 2) ?hd (cs := #[.int .u32 0, .int .u32 0, .slice none 0 0]) (t := 25) ?hr ?_; (case hd => rfl); (case hg => rfl); (case hr => first | (go_simp; done) | (go_simp; rfl)); intro gb132 hg w7 hbox hb; have n0_ := Aside0.mk (below_step (by repeat (first | (with_reducible first | exact HB.out | apply below_alloc | apply pw_below_drewN | apply below_drew1) | exact HB.out)) hb); have n1_ := Aside0.mk (hbox); have n2_ := Aside0.mk ((by rw [hg]; exact (below_size (by repeat (first | (with_reducible first | exact HB.out | apply below_alloc | apply pw_below_drewN | apply below_drew1) | exact HB.out))) : w.heap.size ≤ gb132)); have n3_ := Aside0.mk ((by rw [hg]; exact (below_size (by repeat (first | (with_reducible first | exact HB.out | apply below_alloc | apply pw_below_drewN | apply below_drew1) | exact HB.out))) : w.heap.size ≤ gb132)); clear HB; have HB := n0_; have BK132 := n1_; have GW132 := n2_; have GE132 := n3_; clear n0_ n1_ n2_ n3_; clear hb hbox hg; have hcz8_0 : w7.cell? ⟨gb132, 0, none⟩ = some (.int .u32 0) := (blk_cell BK132.out 0).trans rfl; have hcz8_1 : w7.cell? ⟨gb132, 1, none⟩ = some (.int .u32 0) := (blk_cell BK132.out 1).trans rfl; have hcz8_2 : w7.cell? ⟨gb132, 2, none⟩ = some (.slice none 0 0) := (blk_cell BK132.out 2).trans rfl; have hfz8_0 := blk_frozen BK132.out 0; have hfz8_1 := blk_frozen BK132.out 1; have hfz8_2 := blk_frozen BK132.out 2))
        refine bodyPost_ret (results_ct rfl _ _ gb132 25 #[.int .u32 0, .int .u32 0, .slice none 0 0] (0, 0) _ rfl (by (with_reducible repeat (first | refine blk_drewN ?_ _ | refine blk_drew ?_ | refine blk_alloc ?_ _)); refine blk_put (cs := #[.int .u32 0, .int .u32 0, .slice none 0 0]) ?_ 2 _ rfl; (with_reducible repeat (first | refine blk_drewN ?_ _ | refine blk_drew ?_ | refine blk_alloc ?_ _)); refine blk_put (cs := #[.int .u32 0, .int .u32 0, .slice none 0 0]) ?_ 1 _ rfl; (with_reducible repeat (first | refine blk_drewN ?_ _ | refine blk_drew ?_ | refine blk_alloc ?_ _)); refine blk_put (cs := #[.int .u32 0, .int .u32 0, .slice none 0 0]) ?_ 0 _ rfl; (with_reducible repeat (first | refine blk_drewN ?_ _ | refine blk_drew ?_ | refine blk_alloc ?_ _)); exact BK132.out) Try.underlying25 rfl (by kernel_rfl)) rfl ?_
        exact ⟨_, by first | rfl | (simp [errW_none, errW_some] <;> rfl) | (simp [*, errW_none, errW_some] <;> rfl), by first | exact Kd.R_nil _ _ _ _ _ | exact Kd.N_nil _ _ _ _ _ | exact Kd.V_nil _ _ _ _ _ | exact Kd.Q_nil _ _ _ _ _ | exact Kd.S_nil _ _ _ _ _, by repeat (first | (with_reducible first | exact HB.out | apply below_alloc | apply pw_below_drewN | apply below_drew1 | refine below_set ?_ GE132.out) | exact HB.out)⟩
      · rw [if_neg c6] at H
        have c6b0 : decide ((a0.size : Int) < 12) = false := decide_eq_false c6
        have c6b1 : decide (a0.size < 12) = false := decide_eq_false (by omega)
        clear c6
        replace H := Option.bind_eq_some_iff.mp H
        obtain ⟨⟨t133, t134, t135⟩, A90, H⟩ := H
        replace H : ((flywheelref06_Reader_Get.f k t133 t134 t135 32).bind fun bt137 => ((flywheelref06_Reader_Get.f k bt137.2.1 bt137.2.2.1 bt137.2.2.2 32).bind fun bt141 => (flywheelref11_Decode.l0 k bt141.2.1 bt141.2.2.1 bt141.2.2.2 bt137.1 bt141.1 ([] : List Int)))) = some (r1, r2, r3, r4) := H
        have A9 := Aside0.mk A90
        clear A90
        replace H := Option.bind_eq_some_iff.mp H
        obtain ⟨⟨t137, t138, t139, t140⟩, A100, H⟩ := H
        replace H : ((flywheelref06_Reader_Get.f k t138 t139 t140 32).bind fun bt141 => (flywheelref11_Decode.l0 k bt141.2.1 bt141.2.2.1 bt141.2.2.2 t137 bt141.1 ([] : List Int))) = some (r1, r2, r3, r4) := H
        have A10 := Aside0.mk A100
        clear A100
        replace H := Option.bind_eq_some_iff.mp H
        obtain ⟨⟨t141, t142, t143, t144⟩, A110, H⟩ := H
        replace H : (flywheelref11_Decode.l0 k t142 t143 t144 t137 t141 ([] : List Int)) = some (r1, r2, r3, r4) := H
        have A11 := Aside0.mk A110
        clear A110
        have H' := Aside0.mk H
        clear H
        go_enter Try.func14, Try.ntmps14
        go_wp2_with (first | ((with_reducible refine gate_dst (N := 2) rfl ?_); refine box_event ?hg (N := 2) ?hd (cs := #[.int .u32 0, .int .u32 0, .slice none 0 0]) (t := 25) ?hr ?_; (case hd => rfl); (case hg => rfl); (case hr => first | (go_simp; done) | (go_simp; rfl)); intro gb132 hg w12 hbox hb; have n0_ := Aside0.mk (below_step (by repeat (first | (with_reducible first | exact HB.out | apply below_alloc | apply pw_below_drewN | apply below_drew1) | exact HB.out)) hb); have n1_ := Aside0.mk (hbox); have n2_ := Aside0.mk ((by rw [hg]; exact (below_size (by repeat (first | (with_reducible first | exact HB.out | apply below_alloc | apply pw_below_drewN | apply below_drew1) | exact HB.out))) : w.heap.size ≤ gb132)); have n3_ := Aside0.mk ((by rw [hg]; exact (below_size (by repeat (first | (with_reducible first | exact HB.out | apply below_alloc | apply pw_below_drewN | apply below_drew1) | exact HB.out))) : w.heap.size ≤ gb132)); clear HB; have HB := n0_; have BK132 := n1_; have GW132 := n2_; have GE132 := n3_; clear n0_ n1_ n2_ n3_; clear hb hbox hg) | ((with_reducible refine gate_callee (f := 29) rfl ?_); refine goesL_ (some 23) rfl rfl Try.func29 (by kernel_rfl) rfl #[.string a0] rfl (by (try simp only [List.map_toArray, List.map_cons, List.map_nil]); first | done | rfl | (simp only [List.length_drop, List.length_take]; rfl)) ?_; (with_reducible refine (flywheelref06_Read.calls a0 t133 t134 t135 w _ ?side1 A9.out).mono ?_); (case side1 => repeat (first | (with_reducible first | exact HB.out | apply below_alloc | apply pw_below_drewN | apply below_drew1 | refine below_set ?_ GE132.out) | exact HB.out)); rintro e w13 ⟨g136, rfl, hi, hb, hb2⟩; refine ⟨_, rfl, ?_⟩; have n0_ := Aside0.mk (blk_below (g := gb132) (o := .cells #[.int .u32 0, .int .u32 0, .slice none 0 0] 25 (0, 0)) (by (with_reducible repeat (first | refine blk_drewN ?_ _ | refine blk_drew ?_ | refine blk_alloc ?_ _)); exact BK132.out) hb2); have n1_ := Aside0.mk (hb); have n2_ := Aside0.mk (hi); have n3_ := Aside0.mk (IsS75.ne_blk hi (blk_below (g := gb132) (o := .cells #[.int .u32 0, .int .u32 0, .slice none 0 0] 25 (0, 0)) (by (with_reducible repeat (first | refine blk_drewN ?_ _ | refine blk_drew ?_ | refine blk_alloc ?_ _)); exact BK132.out) hb2) (by decide)); have n4_ := Aside0.mk (Ne.symm (IsS75.ne_blk hi (blk_below (g := gb132) (o := .cells #[.int .u32 0, .int .u32 0, .slice none 0 0] 25 (0, 0)) (by (with_reducible repeat (first | refine blk_drewN ?_ _ | refine blk_drew ?_ | refine blk_alloc ?_ _)); exact BK132.out) hb2) (by decide))); clear BK132; clear HB; have BK132 := n0_; have HB := n1_; have HI136 := n2_; have NB136_132 := n3_; have NB132_136 := n4_; clear n0_ n1_ n2_ n3_ n4_; (try clear hb); (try clear hb2); (try clear hk); (try clear hi)) | ((with_reducible refine gate_callee (f := 30) rfl ?_); refine goesL_ (some 25) rfl rfl Try.func30 (by kernel_rfl) rfl #[.pointer (some ⟨g136, 0, none⟩), .int .i64 32] rfl (by (try simp only [List.map_toArray, List.map_cons, List.map_nil]); first | done | rfl | (simp only [List.length_drop, List.length_take]; rfl)) ?_; (with_reducible refine (flywheelref06_Reader_Get.calls k g136 t133 t134 t135 32 t137 t138 t139 t140 w _ ?side1 ?side2 A10.out).mono ?_); (case side1 => repeat (first | (with_reducible first | exact HI136.out | apply IsS75.alloc | apply IsS75.drewN | apply IsS75.drew | apply IsS75.set_0 | apply IsS75.set_1 | apply IsS75.set_2 | refine IsS75.far ?_ NB136_132.out _) | exact HI136.out)); (case side2 => repeat (first | (with_reducible first | exact HB.out | apply below_alloc | apply pw_below_drewN | apply below_drew1 | refine below_set ?_ (IsS75.ge HI136.out) | refine below_set ?_ GE132.out) | exact HB.out)); rintro e w14 ⟨rfl, hi, hb, hk⟩; refine ⟨_, rfl, ?_⟩; have n0_ := Aside0.mk (KeepBut.blk hk (g' := gb132) (o := .cells #[.int .u32 0, .int .u32 0, .slice none 0 0] 25 (0, 0)) (by (with_reducible repeat (first | refine blk_drewN ?_ _ | refine blk_drew ?_ | refine blk_alloc ?_ _)); exact BK132.out) NB132_136.out (by simp)); have n1_ := Aside0.mk (hb); have n2_ := Aside0.mk (hi); clear BK132; clear HB; clear HI136; have BK132 := n0_; have HB := n1_; have HI136 := n2_; clear n0_ n1_ n2_; (try clear hb); (try clear hb2); (try clear hk); (try clear hi)) | ((with_reducible refine gate_callee (f := 30) rfl ?_); refine goesL_ (some 27) rfl rfl Try.func30 (by kernel_rfl) rfl #[.pointer (some ⟨g136, 0, none⟩), .int .i64 32] rfl (by (try simp only [List.map_toArray, List.map_cons, List.map_nil]); first | done | rfl | (simp only [List.length_drop, List.length_take]; rfl)) ?_; (with_reducible refine (flywheelref06_Reader_Get.calls k g136 t138 t139 t140 32 t141 t142 t143 t144 w _ ?side1 ?side2 A11.out).mono ?_); (case side1 => repeat (first | (with_reducible first | exact HI136.out | apply IsS75.alloc | apply IsS75.drewN | apply IsS75.drew | apply IsS75.set_0 | apply IsS75.set_1 | apply IsS75.set_2 | refine IsS75.far ?_ NB136_132.out _) | exact HI136.out)); (case side2 => repeat (first | (with_reducible first | exact HB.out | apply below_alloc | apply pw_below_drewN | apply below_drew1 | refine below_set ?_ (IsS75.ge HI136.out) | refine below_set ?_ GE132.out) | exact HB.out)); rintro e w15 ⟨rfl, hi, hb, hk⟩; refine ⟨_, rfl, ?_⟩; have n0_ := Aside0.mk (KeepBut.blk hk (g' := gb132) (o := .cells #[.int .u32 0, .int .u32 0, .slice none 0 0] 25 (0, 0)) (by (with_reducible repeat (first | refine blk_drewN ?_ _ | refine blk_drew ?_ | refine blk_alloc ?_ _)); exact BK132.out) NB132_136.out (by simp)); have n1_ := Aside0.mk (hb); have n2_ := Aside0.mk (hi); clear BK132; clear HB; clear HI136; have BK132 := n0_; have HB := n1_; have HI136 := n2_; clear n0_ n1_ n2_; (try clear hb); (try clear hb2); (try clear hk); (try clear hi)) | ((with_reducible refine gate_dst (N := 5) rfl ?_); refine box_event ?hg (N := 5) ?hd (cs := #[.int .u32 0, .int .u32 0, .slice none 0 0]) (t := 25) ?hr ?_; (case hd => rfl); (case hg => rfl); (case hr => first | (go_simp; done) | (go_simp; rfl)); intro gb145 hg w16 hbox hb; have n0_ := Aside0.mk (blk_below (g := gb132) (o := .cells #[.int .u32 0, .int .u32 0, .slice none 0 0] 25 (0, 0)) (by (with_reducible repeat (first | refine blk_drewN ?_ _ | refine blk_drew ?_ | refine blk_alloc ?_ _)); exact BK132.out) hb); have n1_ := Aside0.mk (IsS75.below (by repeat (first | (with_reducible first | exact HI136.out | apply IsS75.alloc | apply IsS75.drewN | apply IsS75.drew | apply IsS75.set_0 | apply IsS75.set_1 | apply IsS75.set_2 | refine IsS75.far ?_ NB136_132.out _) | exact HI136.out)) hb); have n2_ := Aside0.mk (below_step (by repeat (first | (with_reducible first | exact HB.out | apply below_alloc | apply pw_below_drewN | apply below_drew1 | refine below_set ?_ (IsS75.ge HI136.out) | refine below_set ?_ GE132.out) | exact HB.out)) hb); have n3_ := Aside0.mk (hbox); have n4_ := Aside0.mk ((by rw [hg]; exact (below_size (by repeat (first | (with_reducible first | exact HB.out | apply below_alloc | apply pw_below_drewN | apply below_drew1 | refine below_set ?_ (IsS75.ge HI136.out) | refine below_set ?_ GE132.out) | exact HB.out))) : w.heap.size ≤ gb145)); have n5_ := Aside0.mk ((by rw [hg]; exact (below_size (by repeat (first | (with_reducible first | exact HB.out | apply below_alloc | apply pw_below_drewN | apply below_drew1 | refine below_set ?_ (IsS75.ge HI136.out) | refine below_set ?_ GE132.out) | exact HB.out))) : w.heap.size ≤ gb145)); have n6_ := Aside0.mk ((by rw [hg]; exact Nat.ne_of_lt (blk_lt (g := gb132) (o := .cells #[.int .u32 0, .int .u32 0, .slice none 0 0] 25 (0, 0)) (by (with_reducible repeat (first | refine blk_drewN ?_ _ | refine blk_drew ?_ | refine blk_alloc ?_ _)); exact BK132.out)) : gb132 ≠ gb145)); have n7_ := Aside0.mk ((by rw [hg]; exact Nat.ne_of_gt (blk_lt (g := gb132) (o := .cells #[.int .u32 0, .int .u32 0, .slice none 0 0] 25 (0, 0)) (by (with_reducible repeat (first | refine blk_drewN ?_ _ | refine blk_drew ?_ | refine blk_alloc ?_ _)); exact BK132.out)) : gb145 ≠ gb132)); have n8_ := Aside0.mk ((by rw [hg]; exact Nat.ne_of_lt (IsS75.lt (show IsS75 w _ g136 t142 t143 t144 from by repeat (first | (with_reducible first | exact HI136.out | apply IsS75.alloc | apply IsS75.drewN | apply IsS75.drew | apply IsS75.set_0 | apply IsS75.set_1 | apply IsS75.set_2 | refine IsS75.far ?_ NB136_132.out _) | exact HI136.out))) : g136 ≠ gb145)); have n9_ := Aside0.mk ((by rw [hg]; exact Nat.ne_of_gt (IsS75.lt (show IsS75 w _ g136 t142 t143 t144 from by repeat (first | (with_reducible first | exact HI136.out | apply IsS75.alloc | apply IsS75.drewN | apply IsS75.drew | apply IsS75.set_0 | apply IsS75.set_1 | apply IsS75.set_2 | refine IsS75.far ?_ NB136_132.out _) | exact HI136.out))) : gb145 ≠ g136)); clear BK132; clear HI136; clear HB; have BK132 := n0_; have HI136 := n1_; have HB := n2_; have BK145 := n3_; have GW145 := n4_; have GE145 := n5_; have NB132_145 := n6_; have NB145_132 := n7_; have NB136_145 := n8_; have NB145_136 := n9_; clear n0_ n1_ n2_ n3_ n4_ n5_ n6_ n7_ n8_ n9_; clear hb hbox hg; have hnb17 := NB145_132.out; have hnc17 := NB132_145.out; have hnb18 := NB145_136.out; have hnc18 := NB136_145.out; have hcz19_0 : w16.cell? ⟨gb145, 0, none⟩ = some (.int .u32 0) := (blk_cell BK145.out 0).trans rfl; have hcz19_1 : w16.cell? ⟨gb145, 1, none⟩ = some (.int .u32 0) := (blk_cell BK145.out 1).trans rfl; have hcz19_2 : w16.cell? ⟨gb145, 2, none⟩ = some (.slice none 0 0) := (blk_cell BK145.out 2).trans rfl; have hfz19_0 := blk_frozen BK145.out 0; have hfz19_1 := blk_frozen BK145.out 1; have hfz19_2 := blk_frozen BK145.out 2))
        go_loopg [] k (fun kq w' => ∃ (x137000_1 : ByteArray) (x137001_1 : Int) (x137002_1 : Bool) (x146002_1 : List Int) (u146002 : Value), Aside0 (flywheelref11_Decode.l0 kq x137000_1 x137001_1 x137002_1 t137 t141 x146002_1 = some (r1, r2, r3, r4)) ∧ Aside0 (kq ≤ k) ∧ Aside0 (Kd.R (Kd.int .i64) 3 w' w.heap.size (fun _ => True) u146002 x146002_1) ∧ Aside0 (w'.heap[gb132]? = some (.cells #[.int .u32 0, .int .u32 0, (.slice none 0 0)] 25 (0, 0))) ∧ Aside0 (w'.heap[gb145]? = some (.cells #[.int .u32 t137, .int .u32 t141, u146002] 25 (0, 0))) ∧ Aside0 (IsS75 w w' g136 x137000_1 x137001_1 x137002_1) ∧ Aside0 (Below w.heap.size w w'))
        case atStart => exact ⟨(t142), (t143), (t144), (([] : List Int)), (.slice none 0 0), H', ⟨Nat.le_refl _⟩, ⟨by first | exact Kd.R_nil _ _ _ _ _ | exact Kd.N_nil _ _ _ _ _ | exact Kd.V_nil _ _ _ _ _ | exact Kd.Q_nil _ _ _ _ _ | exact Kd.S_nil _ _ _ _ _⟩, ⟨by (with_reducible repeat (first | refine blk_drewN ?_ _ | refine blk_drew ?_ | refine blk_alloc ?_ _)); refine blk_far ?_ NB132_145.out _; (with_reducible repeat (first | refine blk_drewN ?_ _ | refine blk_drew ?_ | refine blk_alloc ?_ _)); refine blk_far ?_ NB132_145.out _; (with_reducible repeat (first | refine blk_drewN ?_ _ | refine blk_drew ?_ | refine blk_alloc ?_ _)); refine blk_far ?_ NB132_145.out _; (with_reducible repeat (first | refine blk_drewN ?_ _ | refine blk_drew ?_ | refine blk_alloc ?_ _)); exact BK132.out⟩, ⟨by (with_reducible repeat (first | refine blk_drewN ?_ _ | refine blk_drew ?_ | refine blk_alloc ?_ _)); refine blk_put (cs := #[.int .u32 t137, .int .u32 t141, .slice none 0 0]) ?_ 2 _ rfl; (with_reducible repeat (first | refine blk_drewN ?_ _ | refine blk_drew ?_ | refine blk_alloc ?_ _)); refine blk_put (cs := #[.int .u32 t137, .int .u32 0, .slice none 0 0]) ?_ 1 _ rfl; (with_reducible repeat (first | refine blk_drewN ?_ _ | refine blk_drew ?_ | refine blk_alloc ?_ _)); refine blk_put (cs := #[.int .u32 0, .int .u32 0, .slice none 0 0]) ?_ 0 _ rfl; (with_reducible repeat (first | refine blk_drewN ?_ _ | refine blk_drew ?_ | refine blk_alloc ?_ _)); exact BK145.out⟩, ⟨by repeat (first | (with_reducible first | exact HI136.out | apply IsS75.alloc | apply IsS75.drewN | apply IsS75.drew | apply IsS75.set_0 | apply IsS75.set_1 | apply IsS75.set_2 | refine IsS75.far ?_ NB136_132.out _ | refine IsS75.far ?_ NB136_145.out _) | exact HI136.out)⟩, ⟨by repeat (first | (with_reducible first | exact HB.out | apply below_alloc | apply pw_below_drewN | apply below_drew1 | refine below_set ?_ (IsS75.ge HI136.out) | refine below_set ?_ GE132.out | refine below_set ?_ GE145.out) | exact HB.out)⟩⟩
        case round =>
          clear H'
          try clear c1
          try clear c2
          try clear c2b0
          try clear c2b1
          try clear p2
          try clear c3
          try clear c5
          try clear c5b0
          try clear c5b1
          try clear c6
          try clear c6b0
          try clear c6b1
          try clear c14
          try clear c17
          try clear c18
          try clear hcz19_0
          try clear hcz19_1
          try clear hcz19_2
          try clear hcz4_0
          try clear hcz4_1
          try clear hcz4_2
          try clear hcz8_0
          try clear hcz8_1
          try clear hcz8_2
          try clear hfz19_0
          try clear hfz19_1
          try clear hfz19_2
          try clear hfz4_0
          try clear hfz4_1
          try clear hfz4_2
          try clear hfz8_0
          try clear hfz8_1
          try clear hfz8_2
          obtain ⟨x137000_1, x137001_1, x137002_1, x146002_1, u146002, HA, HK1, HO_146002, BK132, BK145, HI136, HB⟩ := hrel
          cases gk with
          | zero => exact absurd HA.out (by simp [flywheelref11_Decode.l0])
          | succ k1 =>
            have H := HA.out
            clear HA
            simp only [flywheelref11_Decode.l0] at H
            replace H := Option.bind_eq_some_iff.mp H
            obtain ⟨⟨t146, t147, t148, t149⟩, A200, H⟩ := H
            replace H : (if t146 > 0 then ((flywheelref06_Reader_Get.f k1 t147 t148 t149 16).bind fun bt150 => ((flywheelref06_Reader_Get.f k1 bt150.2.1 bt150.2.2.1 bt150.2.2.2 16).bind fun bt154 => (if x146002_1.length < 17592186044416 then (flywheelref11_Decode.l1 k1 (wrap64 (bt150.1)) bt154.1 0 bt154.2.1 bt154.2.2.1 bt154.2.2.2 t137 t141 (x146002_1 ++ [wrap64 (bt150.1)])) else (none)))) else (if (x146002_1.length : Int) > 4096 then (some (0, 0, ([] : List Int), 3)) else ((flywheelref11_Good.f x146002_1).bind fun t164 => (if t164 = true then (some (t137, t141, x146002_1, 0)) else (some (0, 0, ([] : List Int), 110)))))) = some (r1, r2, r3, r4) := H
            have A20 := Aside0.mk A200
            clear A200
            by_cases c21 : t146 > 0
            · rw [if_pos c21] at H
              have c21b0 : decide (0 < t146) = true := decide_eq_true c21
              clear c21
              replace H := Option.bind_eq_some_iff.mp H
              obtain ⟨⟨t150, t151, t152, t153⟩, A220, H⟩ := H
              replace H : ((flywheelref06_Reader_Get.f k1 t151 t152 t153 16).bind fun bt154 => (if x146002_1.length < 17592186044416 then (flywheelref11_Decode.l1 k1 (wrap64 (t150)) bt154.1 0 bt154.2.1 bt154.2.2.1 bt154.2.2.2 t137 t141 (x146002_1 ++ [wrap64 (t150)])) else (none))) = some (r1, r2, r3, r4) := H
              have A22 := Aside0.mk A220
              clear A220
              replace H := Option.bind_eq_some_iff.mp H
              obtain ⟨⟨t154, t155, t156, t157⟩, A230, H⟩ := H
              replace H : (if x146002_1.length < 17592186044416 then (flywheelref11_Decode.l1 k1 (wrap64 (t150)) t154 0 t155 t156 t157 t137 t141 (x146002_1 ++ [wrap64 (t150)])) else (none)) = some (r1, r2, r3, r4) := H
              have A23 := Aside0.mk A230
              clear A230
              by_cases c24 : x146002_1.length < 17592186044416
              · rw [if_pos c24] at H
                have LMc24 := Aside0.mk c24
                clear c24
                obtain ⟨y158, hy158⟩ : ∃ y_ : List Int, y_ = (x146002_1 ++ [wrap64 (t150)]) := ⟨_, rfl⟩
                replace H : (flywheelref11_Decode.l1 k1 (wrap64 (t150)) t154 0 t155 t156 t157 t137 t141 y158) = some (r1, r2, r3, r4) := by first | (rw [hy158]; with_reducible exact H) | (have H2_ := (Option.bind_some _ _).symm.trans H; rw [hy158]; with_reducible exact H2_) | (have H2_ := (Option.bind_some _ _).symm.trans H; with_reducible exact H2_) | with_reducible exact H | (rw [hy158]; exact H) | exact H
                have Ny158 := Aside0.mk hy158
                clear hy158
                have H' := Aside0.mk H
                clear H
                go_wp2_with (first | ((with_reducible refine gate_callee (f := 31) rfl ?_); refine goesL_ (some 30) rfl rfl Try.func31 (by kernel_rfl) rfl #[.pointer (some ⟨g136, 0, none⟩)] rfl (by (try simp only [List.map_toArray, List.map_cons, List.map_nil]); first | done | rfl | (simp only [List.length_drop, List.length_take]; rfl)) ?_; (with_reducible refine (flywheelref06_Reader_Left.calls g136 x137000_1 x137001_1 x137002_1 t146 t147 t148 t149 w _ ?side1 ?side2 A20.out).mono ?_); (case side1 => repeat (first | (with_reducible first | exact HI136.out | apply IsS75.alloc | apply IsS75.drewN | apply IsS75.drew | apply IsS75.set_0 | apply IsS75.set_1 | apply IsS75.set_2 | refine IsS75.far ?_ NB136_132.out _ | refine IsS75.far ?_ NB136_145.out _) | exact HI136.out)); (case side2 => repeat (first | (with_reducible first | exact HB.out | apply below_alloc | apply pw_below_drewN | apply below_drew1 | refine below_set ?_ (IsS75.ge HI136.out) | refine below_set ?_ GE132.out | refine below_set ?_ GE145.out) | exact HB.out)); rintro e w25 ⟨rfl, hi, hb, hk⟩; refine ⟨_, rfl, ?_⟩; have n0_ := Aside0.mk (Kd.R_mono (Kd.R_keep (IsS75.apart (show IsS75 w _ g136 x137000_1 x137001_1 x137002_1 from by repeat (first | (with_reducible first | exact HI136.out | apply IsS75.alloc | apply IsS75.drewN | apply IsS75.drew | apply IsS75.set_0 | apply IsS75.set_1 | apply IsS75.set_2 | refine IsS75.far ?_ NB136_132.out _ | refine IsS75.far ?_ NB136_145.out _) | exact HI136.out)) (by (with_reducible repeat (first | apply Kd.R_alloc | apply Kd.R_drewN | apply Kd.R_drew)); exact HO_146002.out) (by decide)) hk (fun _ h => h.2)) (fun _ h => h.1)); have n1_ := Aside0.mk (KeepBut.blk hk (g' := gb132) (o := .cells #[.int .u32 0, .int .u32 0, .slice none 0 0] 25 (0, 0)) (by (with_reducible repeat (first | refine blk_drewN ?_ _ | refine blk_drew ?_ | refine blk_alloc ?_ _)); exact BK132.out) NB132_136.out (by simp)); have n2_ := Aside0.mk (KeepBut.blk hk (g' := gb145) (o := .cells #[.int .u32 t137, .int .u32 t141, u146002] 25 (0, 0)) (by (with_reducible repeat (first | refine blk_drewN ?_ _ | refine blk_drew ?_ | refine blk_alloc ?_ _)); exact BK145.out) NB145_136.out (by simp)); have n3_ := Aside0.mk (hb); have n4_ := Aside0.mk (hi); clear HO_146002; clear BK132; clear BK145; clear HB; clear HI136; have HO_146002 := n0_; have BK132 := n1_; have BK145 := n2_; have HB := n3_; have HI136 := n4_; clear n0_ n1_ n2_ n3_ n4_; (try clear hb); (try clear hb2); (try clear hk); (try clear hi)) | ((with_reducible refine gate_callee (f := 30) rfl ?_); refine goesL_ (some 33) rfl rfl Try.func30 (by kernel_rfl) rfl #[.pointer (some ⟨g136, 0, none⟩), .int .i64 16] rfl (by (try simp only [List.map_toArray, List.map_cons, List.map_nil]); first | done | rfl | (simp only [List.length_drop, List.length_take]; rfl)) ?_; (with_reducible refine (flywheelref06_Reader_Get.calls k1 g136 t147 t148 t149 16 t150 t151 t152 t153 w _ ?side1 ?side2 A22.out).mono ?_); (case side1 => repeat (first | (with_reducible first | exact HI136.out | apply IsS75.alloc | apply IsS75.drewN | apply IsS75.drew | apply IsS75.set_0 | apply IsS75.set_1 | apply IsS75.set_2 | refine IsS75.far ?_ NB136_132.out _ | refine IsS75.far ?_ NB136_145.out _) | exact HI136.out)); (case side2 => repeat (first | (with_reducible first | exact HB.out | apply below_alloc | apply pw_below_drewN | apply below_drew1 | refine below_set ?_ (IsS75.ge HI136.out) | refine below_set ?_ GE132.out | refine below_set ?_ GE145.out) | exact HB.out)); rintro e w26 ⟨rfl, hi, hb, hk⟩; refine ⟨_, rfl, ?_⟩; have n0_ := Aside0.mk (Kd.R_mono (Kd.R_keep (IsS75.apart (show IsS75 w _ g136 t147 t148 t149 from by repeat (first | (with_reducible first | exact HI136.out | apply IsS75.alloc | apply IsS75.drewN | apply IsS75.drew | apply IsS75.set_0 | apply IsS75.set_1 | apply IsS75.set_2 | refine IsS75.far ?_ NB136_132.out _ | refine IsS75.far ?_ NB136_145.out _) | exact HI136.out)) (by (with_reducible repeat (first | apply Kd.R_alloc | apply Kd.R_drewN | apply Kd.R_drew)); exact HO_146002.out) (by decide)) hk (fun _ h => h.2)) (fun _ h => h.1)); have n1_ := Aside0.mk (KeepBut.blk hk (g' := gb132) (o := .cells #[.int .u32 0, .int .u32 0, .slice none 0 0] 25 (0, 0)) (by (with_reducible repeat (first | refine blk_drewN ?_ _ | refine blk_drew ?_ | refine blk_alloc ?_ _)); exact BK132.out) NB132_136.out (by simp)); have n2_ := Aside0.mk (KeepBut.blk hk (g' := gb145) (o := .cells #[.int .u32 t137, .int .u32 t141, u146002] 25 (0, 0)) (by (with_reducible repeat (first | refine blk_drewN ?_ _ | refine blk_drew ?_ | refine blk_alloc ?_ _)); exact BK145.out) NB145_136.out (by simp)); have n3_ := Aside0.mk (hb); have n4_ := Aside0.mk (hi); clear HO_146002; clear BK132; clear BK145; clear HB; clear HI136; have HO_146002 := n0_; have BK132 := n1_; have BK145 := n2_; have HB := n3_; have HI136 := n4_; clear n0_ n1_ n2_ n3_ n4_; (try clear hb); (try clear hb2); (try clear hk); (try clear hi)) | ((with_reducible refine gate_callee (f := 30) rfl ?_); refine goesL_ (some 36) rfl rfl Try.func30 (by kernel_rfl) rfl #[.pointer (some ⟨g136, 0, none⟩), .int .i64 16] rfl (by (try simp only [List.map_toArray, List.map_cons, List.map_nil]); first | done | rfl | (simp only [List.length_drop, List.length_take]; rfl)) ?_; (with_reducible refine (flywheelref06_Reader_Get.calls k1 g136 t151 t152 t153 16 t154 t155 t156 t157 w _ ?side1 ?side2 A23.out).mono ?_); (case side1 => repeat (first | (with_reducible first | exact HI136.out | apply IsS75.alloc | apply IsS75.drewN | apply IsS75.drew | apply IsS75.set_0 | apply IsS75.set_1 | apply IsS75.set_2 | refine IsS75.far ?_ NB136_132.out _ | refine IsS75.far ?_ NB136_145.out _) | exact HI136.out)); (case side2 => repeat (first | (with_reducible first | exact HB.out | apply below_alloc | apply pw_below_drewN | apply below_drew1 | refine below_set ?_ (IsS75.ge HI136.out) | refine below_set ?_ GE132.out | refine below_set ?_ GE145.out) | exact HB.out)); rintro e w27 ⟨rfl, hi, hb, hk⟩; refine ⟨_, rfl, ?_⟩; have n0_ := Aside0.mk (Kd.R_mono (Kd.R_keep (IsS75.apart (show IsS75 w _ g136 t151 t152 t153 from by repeat (first | (with_reducible first | exact HI136.out | apply IsS75.alloc | apply IsS75.drewN | apply IsS75.drew | apply IsS75.set_0 | apply IsS75.set_1 | apply IsS75.set_2 | refine IsS75.far ?_ NB136_132.out _ | refine IsS75.far ?_ NB136_145.out _) | exact HI136.out)) (by (with_reducible repeat (first | apply Kd.R_alloc | apply Kd.R_drewN | apply Kd.R_drew)); exact HO_146002.out) (by decide)) hk (fun _ h => h.2)) (fun _ h => h.1)); have n1_ := Aside0.mk (KeepBut.blk hk (g' := gb132) (o := .cells #[.int .u32 0, .int .u32 0, .slice none 0 0] 25 (0, 0)) (by (with_reducible repeat (first | refine blk_drewN ?_ _ | refine blk_drew ?_ | refine blk_alloc ?_ _)); exact BK132.out) NB132_136.out (by simp)); have n2_ := Aside0.mk (KeepBut.blk hk (g' := gb145) (o := .cells #[.int .u32 t137, .int .u32 t141, u146002] 25 (0, 0)) (by (with_reducible repeat (first | refine blk_drewN ?_ _ | refine blk_drew ?_ | refine blk_alloc ?_ _)); exact BK145.out) NB145_136.out (by simp)); have n3_ := Aside0.mk (hb); have n4_ := Aside0.mk (hi); clear HO_146002; clear BK132; clear BK145; clear HB; clear HI136; have HO_146002 := n0_; have BK132 := n1_; have BK145 := n2_; have HB := n3_; have HI136 := n4_; clear n0_ n1_ n2_ n3_ n4_; (try clear hb); (try clear hb2); (try clear hk); (try clear hi); have hnb28 := NB145_132.out; have hnc28 := NB132_145.out; have hnb29 := NB145_136.out; have hnc29 := NB136_145.out; have hcz30_0 : w27.cell? ⟨gb145, 0, none⟩ = some (.int .u32 t137) := (blk_cell BK145.out 0).trans rfl; have hcz30_1 : w27.cell? ⟨gb145, 1, none⟩ = some (.int .u32 t141) := (blk_cell BK145.out 1).trans rfl; have hcz30_2 : w27.cell? ⟨gb145, 2, none⟩ = some (u146002) := (blk_cell BK145.out 2).trans rfl; have hfz30_0 := blk_frozen BK145.out 0; have hfz30_1 := blk_frozen BK145.out 1; have hfz30_2 := blk_frozen BK145.out 2) | ((with_reducible refine gate_builtin (b := .append) (xs := #[.tmp 38, .tmp 40]) rfl ?_); at_builtin; refine Kd.R_append (Kd.int .i64) (w0 := w) w.heap.size rfl (.tmp 38) (.tmp 40) 23 3 (.int .i64 0) 8 rfl Try.underlying23 info3 rfl (by decide) (by omega) u146002 x146002_1 (wrap64 (t150)) [.int .i64 (wrap64 (t150))] (fun _ => True) (fun _ => False) rfl rfl ?aP (fun _ hk => hk.elim) ?aF ?aO ?aB ?aS ?aL ?_; (case aP => exact rfl); (case aB => exact (by repeat (first | (with_reducible first | exact HB.out | apply below_alloc | apply pw_below_drewN | apply below_drew1 | refine below_set ?_ (IsS75.ge HI136.out) | refine below_set ?_ GE132.out | refine below_set ?_ GE145.out) | exact HB.out))); (case aF => exact (fun _ _ => trivial)); (case aO => exact (by (with_reducible repeat (first | apply Kd.R_alloc | apply Kd.R_drewN | apply Kd.R_drew)); exact HO_146002.out)); (case aS => exact (below_size (by repeat (first | (with_reducible first | exact HB.out | apply below_alloc | apply pw_below_drewN | apply below_drew1 | refine below_set ?_ (IsS75.ge HI136.out) | refine below_set ?_ GE132.out | refine below_set ?_ GE145.out) | exact HB.out)))); (case aL => have := LMc24.out; omega); intro v159 w31 ho hb hg hat; rw [← Ny158.out] at ho; have n0_ := Aside0.mk (blk_grown (g := gb132) (o := .cells #[.int .u32 0, .int .u32 0, .slice none 0 0] 25 (0, 0)) (by (with_reducible repeat (first | refine blk_drewN ?_ _ | refine blk_drew ?_ | refine blk_alloc ?_ _)); exact BK132.out) hg (Kd.R_ne HO_146002.out BK132.out (by decide))); have n1_ := Aside0.mk (blk_grown (g := gb145) (o := .cells #[.int .u32 t137, .int .u32 t141, u146002] 25 (0, 0)) (by (with_reducible repeat (first | refine blk_drewN ?_ _ | refine blk_drew ?_ | refine blk_alloc ?_ _)); exact BK145.out) hg (Kd.R_ne HO_146002.out BK145.out (by decide))); have n2_ := Aside0.mk (IsS75.grown (by repeat (first | (with_reducible first | exact HI136.out | apply IsS75.alloc | apply IsS75.drewN | apply IsS75.drew | apply IsS75.set_0 | apply IsS75.set_1 | apply IsS75.set_2 | refine IsS75.far ?_ NB136_132.out _ | refine IsS75.far ?_ NB136_145.out _) | exact HI136.out)) hg (IsS75.own_ne HI136.out HO_146002.out (by decide))); have n3_ := Aside0.mk (hb); have n4_ := Aside0.mk (ho); clear BK132; clear BK145; clear HI136; clear HB; clear HO_146002; have BK132 := n0_; have BK145 := n1_; have HI136 := n2_; have HB := n3_; have HO160 := n4_; clear n0_ n1_ n2_ n3_ n4_; clear ho hb hg hat; obtain ⟨Ao32, co32, eo32⟩ := Kd.R_slice HO160.out; subst eo32; have hcz33_0 : w31.cell? ⟨gb145, 0, none⟩ = some (.int .u32 t137) := (blk_cell BK145.out 0).trans rfl; have hcz33_1 : w31.cell? ⟨gb145, 1, none⟩ = some (.int .u32 t141) := (blk_cell BK145.out 1).trans rfl; have hcz33_2 : w31.cell? ⟨gb145, 2, none⟩ = some (u146002) := (blk_cell BK145.out 2).trans rfl; have hfz33_0 := blk_frozen BK145.out 0; have hfz33_1 := blk_frozen BK145.out 1; have hfz33_2 := blk_frozen BK145.out 2))
                go_loopg [8] k1 (fun kq v8 w' => ∃ (x8_2 : Int) (x146002_2 : List Int) (u146002 : Value), v8 = .int .i64 x8_2 ∧ Aside0 (flywheelref11_Decode.l1 kq (wrap64 (t150)) t154 x8_2 t155 t156 t157 t137 t141 x146002_2 = some (r1, r2, r3, r4)) ∧ Aside0 (kq ≤ k1) ∧ Aside0 (Kd.R (Kd.int .i64) 3 w' w.heap.size (fun _ => True) u146002 x146002_2) ∧ Aside0 (w'.heap[gb132]? = some (.cells #[.int .u32 0, .int .u32 0, (.slice none 0 0)] 25 (0, 0))) ∧ Aside0 (w'.heap[gb145]? = some (.cells #[.int .u32 t137, .int .u32 t141, u146002] 25 (0, 0))) ∧ Aside0 (IsS75 w w' g136 t155 t156 t157) ∧ Aside0 (Below w.heap.size w w'))
                case atStart => exact ⟨(0), (y158), (.slice Ao32 y158.length co32), (by first | rfl | (simp; done) | (simp [*]; done)), H', ⟨Nat.le_refl _⟩, ⟨by (with_reducible repeat (first | apply Kd.R_alloc | apply Kd.R_drewN | apply Kd.R_drew)); exact Kd.R_mono (Kd.R_far (p := ⟨gb145, 2, none⟩) (Kd.R_types HO160.out BK145.out (by decide)) (fun _ hk => hk.2) (.slice Ao32 y158.length co32)) (fun _ hk => trivial)⟩, ⟨by (with_reducible repeat (first | refine blk_drewN ?_ _ | refine blk_drew ?_ | refine blk_alloc ?_ _)); refine blk_far ?_ NB132_145.out _; (with_reducible repeat (first | refine blk_drewN ?_ _ | refine blk_drew ?_ | refine blk_alloc ?_ _)); exact BK132.out⟩, ⟨by (with_reducible repeat (first | refine blk_drewN ?_ _ | refine blk_drew ?_ | refine blk_alloc ?_ _)); refine blk_put (cs := #[.int .u32 t137, .int .u32 t141, u146002]) ?_ 2 _ rfl; (with_reducible repeat (first | refine blk_drewN ?_ _ | refine blk_drew ?_ | refine blk_alloc ?_ _)); exact BK145.out⟩, ⟨by repeat (first | (with_reducible first | exact HI136.out | apply IsS75.alloc | apply IsS75.drewN | apply IsS75.drew | apply IsS75.set_0 | apply IsS75.set_1 | apply IsS75.set_2 | refine IsS75.far ?_ NB136_132.out _ | refine IsS75.far ?_ NB136_145.out _) | exact HI136.out)⟩, ⟨by repeat (first | (with_reducible first | exact HB.out | apply below_alloc | apply pw_below_drewN | apply below_drew1 | refine below_set ?_ (IsS75.ge HI136.out) | refine below_set ?_ GE132.out | refine below_set ?_ GE145.out) | exact HB.out)⟩⟩
                case round =>
                  clear H'
                  try clear c1
                  try clear c2
                  try clear c2b0
                  try clear c2b1
                  try clear p2
                  try clear c3
                  try clear c5
                  try clear c5b0
                  try clear c5b1
                  try clear c6
                  try clear c6b0
                  try clear c6b1
                  try clear p6
                  try clear c14
                  try clear c17
                  try clear c18
                  try clear c21
                  try clear c21b0
                  try clear c24
                  try clear c28
                  try clear c29
                  try clear c30
                  try clear c31
                  try clear hcz19_0
                  try clear hcz19_1
                  try clear hcz19_2
                  try clear hcz30_0
                  try clear hcz30_1
                  try clear hcz30_2
                  try clear hcz33_0
                  try clear hcz33_1
                  try clear hcz33_2
                  try clear hcz4_0
                  try clear hcz4_1
                  try clear hcz4_2
                  try clear hcz8_0
                  try clear hcz8_1
                  try clear hcz8_2
                  try clear hfz19_0
                  try clear hfz19_1
                  try clear hfz19_2
                  try clear hfz30_0
                  try clear hfz30_1
                  try clear hfz30_2
                  try clear hfz33_0
                  try clear hfz33_1
                  try clear hfz33_2
                  try clear hfz4_0
                  try clear hfz4_1
                  try clear hfz4_2
                  try clear hfz8_0
                  try clear hfz8_1
                  try clear hfz8_2
                  try clear p2
                  obtain ⟨x8_2, x146002_2, u146002, rfl, HA, HK2, HO_146002, BK132, BK145, HI136, HB⟩ := hrel
                  cases gk with
                  | zero => exact absurd HA.out (by simp [flywheelref11_Decode.l1])
                  | succ k2 =>
                    have H := HA.out
                    clear HA
                    simp only [flywheelref11_Decode.l1] at H
                    by_cases c34 : x8_2 < 16
                    · rw [if_pos c34] at H
                      have c34b0 : decide (x8_2 < 16) = true := decide_eq_true c34
                      clear c34
                      obtain ⟨ji35, hji35⟩ : ∃ j_ : Int, (IntKind.u64.wrap (x8_2)) = j_ := ⟨_, rfl⟩
                      replace H : (if 0 ≤ (ji35) then (if (Go.bits .and .u32 (shr .u32 t154 (ji35)) 1) = 1 then (if x146002_2.length < 17592186044416 then (flywheelref11_Decode.l1 k2 (wrap64 (t150)) t154 (wrap64 (x8_2 + 1)) t155 t156 t157 t137 t141 (x146002_2 ++ [Int.tmod (wrap64 ((wrap64 ((wrap64 (t150)) + x8_2)) + 1)) 65536])) else (none)) else (flywheelref11_Decode.l1 k2 (wrap64 (t150)) t154 (wrap64 (x8_2 + 1)) t155 t156 t157 t137 t141 x146002_2)) else (none)) = some (r1, r2, r3, r4) := by first | (rw [hji35] at H; exact H) | (simp only [hji35] at H ⊢; exact H)
                      by_cases c36 : 0 ≤ (ji35)
                      · rw [if_pos c36] at H
                        have c36b0 := eq_true c36
                        have c36b1 : decide (0 ≤ (ji35)) = true := decide_eq_true c36
                        clear c36
                        obtain ⟨ji37, hji37⟩ : ∃ j_ : Int, (shr .u32 t154 (ji35)) = j_ := ⟨_, rfl⟩
                        replace H : (if (Go.bits .and .u32 (ji37) 1) = 1 then (if x146002_2.length < 17592186044416 then (flywheelref11_Decode.l1 k2 (wrap64 (t150)) t154 (wrap64 (x8_2 + 1)) t155 t156 t157 t137 t141 (x146002_2 ++ [Int.tmod (wrap64 ((wrap64 ((wrap64 (t150)) + x8_2)) + 1)) 65536])) else (none)) else (flywheelref11_Decode.l1 k2 (wrap64 (t150)) t154 (wrap64 (x8_2 + 1)) t155 t156 t157 t137 t141 x146002_2)) = some (r1, r2, r3, r4) := by first | (rw [hji37] at H; exact H) | (simp only [hji37] at H ⊢; exact H)
                        have hji37_ : (t154 / 2 ^ min (ji35).toNat 32) = ji37 := hji37
                        have hji37z : (ji35) ≤ 32 → (t154 / 2 ^ (ji35).toNat) = ji37 := shr_small hji37
                        by_cases c38 : (Go.bits .and .u32 (ji37) 1) = 1
                        · rw [if_pos c38] at H
                          have c38b0 : ((Go.bits .and .u32 (ji37) 1) == 1) = true := beq_iff_eq.mpr c38
                          have c38b1 : ((Go.bits .and .u32 (ji37) 1) != 1) = false := bne_eq_false_iff_eq.mpr c38
                          clear c38
                          by_cases c39 : x146002_2.length < 17592186044416
                          · rw [if_pos c39] at H
                            have LMc39 := Aside0.mk c39
                            clear c39
                            obtain ⟨y161, hy161⟩ : ∃ y_ : List Int, y_ = (x146002_2 ++ [Int.tmod (wrap64 ((wrap64 ((wrap64 (t150)) + x8_2)) + 1)) 65536]) := ⟨_, rfl⟩
                            replace H : (flywheelref11_Decode.l1 k2 (wrap64 (t150)) t154 (wrap64 (x8_2 + 1)) t155 t156 t157 t137 t141 y161) = some (r1, r2, r3, r4) := by first | (rw [hy161]; with_reducible exact H) | (have H2_ := (Option.bind_some _ _).symm.trans H; rw [hy161]; with_reducible exact H2_) | (have H2_ := (Option.bind_some _ _).symm.trans H; with_reducible exact H2_) | with_reducible exact H | (rw [hy161]; exact H) | exact H
                            have Ny161 := Aside0.mk hy161
                            clear hy161
                            have H' := Aside0.mk H
                            clear H
                            have hnb40 := NB145_132.out
                            have hnc40 := NB132_145.out
                            have hnb41 := NB145_136.out
                            have hnc41 := NB136_145.out
                            have hcz42_0 : wr.cell? ⟨gb145, 0, none⟩ = some (.int .u32 t137) := (blk_cell BK145.out 0).trans rfl
                            have hcz42_1 : wr.cell? ⟨gb145, 1, none⟩ = some (.int .u32 t141) := (blk_cell BK145.out 1).trans rfl
                            have hcz42_2 : wr.cell? ⟨gb145, 2, none⟩ = some (u146002) := (blk_cell BK145.out 2).trans rfl
                            have hfz42_0 := blk_frozen BK145.out 0
                            have hfz42_1 := blk_frozen BK145.out 1
                            have hfz42_2 := blk_frozen BK145.out 2
                            go_wp2_with (first | ((with_reducible refine gate_builtin (b := .append) (xs := #[.tmp 54, .tmp 60]) rfl ?_); at_builtin; refine Kd.R_append (Kd.int .i64) (w0 := w) w.heap.size rfl (.tmp 54) (.tmp 60) 23 3 (.int .i64 0) 8 rfl Try.underlying23 info3 rfl (by decide) (by omega) u146002 x146002_2 (Int.tmod (wrap64 ((wrap64 ((wrap64 (t150)) + x8_2)) + 1)) 65536) [.int .i64 (Int.tmod (wrap64 ((wrap64 ((wrap64 (t150)) + x8_2)) + 1)) 65536)] (fun _ => True) (fun _ => False) rfl rfl ?aP (fun _ hk => hk.elim) ?aF ?aO ?aB ?aS ?aL ?_; (case aP => exact rfl); (case aB => exact (by repeat (first | (with_reducible first | exact HB.out | apply below_alloc | apply pw_below_drewN | apply below_drew1 | refine below_set ?_ (IsS75.ge HI136.out) | refine below_set ?_ GE132.out | refine below_set ?_ GE145.out) | exact HB.out))); (case aF => exact (fun _ _ => trivial)); (case aO => exact (by (with_reducible repeat (first | apply Kd.R_alloc | apply Kd.R_drewN | apply Kd.R_drew)); exact HO_146002.out)); (case aS => exact (below_size (by repeat (first | (with_reducible first | exact HB.out | apply below_alloc | apply pw_below_drewN | apply below_drew1 | refine below_set ?_ (IsS75.ge HI136.out) | refine below_set ?_ GE132.out | refine below_set ?_ GE145.out) | exact HB.out)))); (case aL => have := LMc39.out; omega); intro v162 w43 ho hb hg hat; rw [← Ny161.out] at ho; have n0_ := Aside0.mk (blk_grown (g := gb132) (o := .cells #[.int .u32 0, .int .u32 0, .slice none 0 0] 25 (0, 0)) (by (with_reducible repeat (first | refine blk_drewN ?_ _ | refine blk_drew ?_ | refine blk_alloc ?_ _)); exact BK132.out) hg (Kd.R_ne HO_146002.out BK132.out (by decide))); have n1_ := Aside0.mk (blk_grown (g := gb145) (o := .cells #[.int .u32 t137, .int .u32 t141, u146002] 25 (0, 0)) (by (with_reducible repeat (first | refine blk_drewN ?_ _ | refine blk_drew ?_ | refine blk_alloc ?_ _)); exact BK145.out) hg (Kd.R_ne HO_146002.out BK145.out (by decide))); have n2_ := Aside0.mk (IsS75.grown (by repeat (first | (with_reducible first | exact HI136.out | apply IsS75.alloc | apply IsS75.drewN | apply IsS75.drew | apply IsS75.set_0 | apply IsS75.set_1 | apply IsS75.set_2 | refine IsS75.far ?_ NB136_132.out _ | refine IsS75.far ?_ NB136_145.out _) | exact HI136.out)) hg (IsS75.own_ne HI136.out HO_146002.out (by decide))); have n3_ := Aside0.mk (hb); have n4_ := Aside0.mk (ho); clear BK132; clear BK145; clear HI136; clear HB; clear HO_146002; have BK132 := n0_; have BK145 := n1_; have HI136 := n2_; have HB := n3_; have HO163 := n4_; clear n0_ n1_ n2_ n3_ n4_; clear ho hb hg hat; obtain ⟨Ao44, co44, eo44⟩ := Kd.R_slice HO163.out; subst eo44; have hcz45_0 : w43.cell? ⟨gb145, 0, none⟩ = some (.int .u32 t137) := (blk_cell BK145.out 0).trans rfl; have hcz45_1 : w43.cell? ⟨gb145, 1, none⟩ = some (.int .u32 t141) := (blk_cell BK145.out 1).trans rfl; have hcz45_2 : w43.cell? ⟨gb145, 2, none⟩ = some (u146002) := (blk_cell BK145.out 2).trans rfl; have hfz45_0 := blk_frozen BK145.out 0; have hfz45_1 := blk_frozen BK145.out 1; have hfz45_2 := blk_frozen BK145.out 2))
                            go_roundg k2
                            case measure => have := HK1.out; have := HK2.out; omega
                            case rel => exact ⟨(wrap64 (x8_2 + 1)), (y161), (.slice Ao44 y161.length co44), (by first | rfl | (simp; done) | (simp [*]; done)), H', ⟨by have := HK1.out; have := HK2.out; omega⟩, ⟨by (with_reducible repeat (first | apply Kd.R_alloc | apply Kd.R_drewN | apply Kd.R_drew)); exact Kd.R_mono (Kd.R_far (p := ⟨gb145, 2, none⟩) (Kd.R_types HO163.out BK145.out (by decide)) (fun _ hk => hk.2) (.slice Ao44 y161.length co44)) (fun _ hk => trivial)⟩, ⟨by (with_reducible repeat (first | refine blk_drewN ?_ _ | refine blk_drew ?_ | refine blk_alloc ?_ _)); refine blk_far ?_ NB132_145.out _; (with_reducible repeat (first | refine blk_drewN ?_ _ | refine blk_drew ?_ | refine blk_alloc ?_ _)); exact BK132.out⟩, ⟨by (with_reducible repeat (first | refine blk_drewN ?_ _ | refine blk_drew ?_ | refine blk_alloc ?_ _)); refine blk_put (cs := #[.int .u32 t137, .int .u32 t141, u146002]) ?_ 2 _ rfl; (with_reducible repeat (first | refine blk_drewN ?_ _ | refine blk_drew ?_ | refine blk_alloc ?_ _)); exact BK145.out⟩, ⟨by repeat (first | (with_reducible first | exact HI136.out | apply IsS75.alloc | apply IsS75.drewN | apply IsS75.drew | apply IsS75.set_0 | apply IsS75.set_1 | apply IsS75.set_2 | refine IsS75.far ?_ NB136_132.out _ | refine IsS75.far ?_ NB136_145.out _) | exact HI136.out)⟩, ⟨by repeat (first | (with_reducible first | exact HB.out | apply below_alloc | apply pw_below_drewN | apply below_drew1 | refine below_set ?_ (IsS75.ge HI136.out) | refine below_set ?_ GE132.out | refine below_set ?_ GE145.out) | exact HB.out)⟩⟩
                          · rw [if_neg c39] at H
                            exact absurd H (by simp)
                        · rw [if_neg c38] at H
                          have c38b0 : ((Go.bits .and .u32 (ji37) 1) == 1) = false := beq_eq_false_iff_ne.mpr c38
                          have c38b1 : ((Go.bits .and .u32 (ji37) 1) != 1) = true := bne_iff_ne.mpr c38
                          have H' := Aside0.mk H
                          clear H
                          go_wp2
                          go_roundg k2
                          case measure => have := HK1.out; have := HK2.out; omega
                          case rel => exact ⟨(wrap64 (x8_2 + 1)), (x146002_2), (u146002), (by first | rfl | (simp; done) | (simp [*]; done)), H', ⟨by have := HK1.out; have := HK2.out; omega⟩, ⟨by (with_reducible repeat (first | apply Kd.R_alloc | apply Kd.R_drewN | apply Kd.R_drew)); exact HO_146002.out⟩, ⟨by (with_reducible repeat (first | refine blk_drewN ?_ _ | refine blk_drew ?_ | refine blk_alloc ?_ _)); exact BK132.out⟩, ⟨by (with_reducible repeat (first | refine blk_drewN ?_ _ | refine blk_drew ?_ | refine blk_alloc ?_ _)); exact BK145.out⟩, ⟨by repeat (first | (with_reducible first | exact HI136.out | apply IsS75.alloc | apply IsS75.drewN | apply IsS75.drew | apply IsS75.set_0 | apply IsS75.set_1 | apply IsS75.set_2 | refine IsS75.far ?_ NB136_132.out _ | refine IsS75.far ?_ NB136_145.out _) | exact HI136.out)⟩, ⟨by repeat (first | (with_reducible first | exact HB.out | apply below_alloc | apply pw_below_drewN | apply below_drew1 | refine below_set ?_ (IsS75.ge HI136.out) | refine below_set ?_ GE132.out | refine below_set ?_ GE145.out) | exact HB.out)⟩⟩
                      · rw [if_neg c36] at H
                        exact absurd H (by simp)
                    · rw [if_neg c34] at H
                      have c34b0 : decide (x8_2 < 16) = false := decide_eq_false c34
                      clear c34
                      have H' := Aside0.mk H
                      clear H
                      go_wp2
                      go_roundg k2
                      case measure => have := HK1.out; have := HK2.out; omega
                      case rel => exact ⟨(t155), (t156), (t157), (x146002_2), (u146002), H', ⟨by have := HK1.out; have := HK2.out; omega⟩, ⟨by (with_reducible repeat (first | apply Kd.R_alloc | apply Kd.R_drewN | apply Kd.R_drew)); exact HO_146002.out⟩, ⟨by (with_reducible repeat (first | refine blk_drewN ?_ _ | refine blk_drew ?_ | refine blk_alloc ?_ _)); exact BK132.out⟩, ⟨by (with_reducible repeat (first | refine blk_drewN ?_ _ | refine blk_drew ?_ | refine blk_alloc ?_ _)); exact BK145.out⟩, ⟨by repeat (first | (with_reducible first | exact HI136.out | apply IsS75.alloc | apply IsS75.drewN | apply IsS75.drew | apply IsS75.set_0 | apply IsS75.set_1 | apply IsS75.set_2 | refine IsS75.far ?_ NB136_132.out _ | refine IsS75.far ?_ NB136_145.out _) | exact HI136.out)⟩, ⟨by repeat (first | (with_reducible first | exact HB.out | apply below_alloc | apply pw_below_drewN | apply below_drew1 | refine below_set ?_ (IsS75.ge HI136.out) | refine below_set ?_ GE132.out | refine below_set ?_ GE145.out) | exact HB.out)⟩⟩
              · rw [if_neg c24] at H
                exact absurd H (by simp)
            · rw [if_neg c21] at H
              have c21b0 : decide (0 < t146) = false := decide_eq_false c21
              clear c21
              by_cases c46 : (x146002_1.length : Int) > 4096
              · rw [if_pos c46] at H
                have c46b0 : decide (4096 < (x146002_1.length : Int)) = true := decide_eq_true c46
                have c46b1 : decide (4096 < x146002_1.length) = true := decide_eq_true (by omega)
                clear c46
                simp only [Option.some.injEq, Prod.mk.injEq] at H
                obtain ⟨rfl, rfl, rfl, rfl⟩ := H
                go_wp2_with (first | ((with_reducible refine gate_callee (f := 31) rfl ?_); refine goesL_ (some 30) rfl rfl Try.func31 (by kernel_rfl) rfl #[.pointer (some ⟨g136, 0, none⟩)] rfl (by (try simp only [List.map_toArray, List.map_cons, List.map_nil]); first | done | rfl | (simp only [List.length_drop, List.length_take]; rfl)) ?_; (with_reducible refine (flywheelref06_Reader_Left.calls g136 x137000_1 x137001_1 x137002_1 t146 t147 t148 t149 w _ ?side1 ?side2 A20.out).mono ?_); (case side1 => repeat (first | (with_reducible first | exact HI136.out | apply IsS75.alloc | apply IsS75.drewN | apply IsS75.drew | apply IsS75.set_0 | apply IsS75.set_1 | apply IsS75.set_2 | refine IsS75.far ?_ NB136_132.out _ | refine IsS75.far ?_ NB136_145.out _) | exact HI136.out)); (case side2 => repeat (first | (with_reducible first | exact HB.out | apply below_alloc | apply pw_below_drewN | apply below_drew1 | refine below_set ?_ (IsS75.ge HI136.out) | refine below_set ?_ GE132.out | refine below_set ?_ GE145.out) | exact HB.out)); rintro e w47 ⟨rfl, hi, hb, hk⟩; refine ⟨_, rfl, ?_⟩; have n0_ := Aside0.mk (Kd.R_mono (Kd.R_keep (IsS75.apart (show IsS75 w _ g136 x137000_1 x137001_1 x137002_1 from by repeat (first | (with_reducible first | exact HI136.out | apply IsS75.alloc | apply IsS75.drewN | apply IsS75.drew | apply IsS75.set_0 | apply IsS75.set_1 | apply IsS75.set_2 | refine IsS75.far ?_ NB136_132.out _ | refine IsS75.far ?_ NB136_145.out _) | exact HI136.out)) (by (with_reducible repeat (first | apply Kd.R_alloc | apply Kd.R_drewN | apply Kd.R_drew)); exact HO_146002.out) (by decide)) hk (fun _ h => h.2)) (fun _ h => h.1)); have n1_ := Aside0.mk (KeepBut.blk hk (g' := gb132) (o := .cells #[.int .u32 0, .int .u32 0, .slice none 0 0] 25 (0, 0)) (by (with_reducible repeat (first | refine blk_drewN ?_ _ | refine blk_drew ?_ | refine blk_alloc ?_ _)); exact BK132.out) NB132_136.out (by simp)); have n2_ := Aside0.mk (KeepBut.blk hk (g' := gb145) (o := .cells #[.int .u32 t137, .int .u32 t141, u146002] 25 (0, 0)) (by (with_reducible repeat (first | refine blk_drewN ?_ _ | refine blk_drew ?_ | refine blk_alloc ?_ _)); exact BK145.out) NB145_136.out (by simp)); have n3_ := Aside0.mk (hb); have n4_ := Aside0.mk (hi); clear HO_146002; clear BK132; clear BK145; clear HB; clear HI136; have HO_146002 := n0_; have BK132 := n1_; have BK145 := n2_; have HB := n3_; have HI136 := n4_; clear n0_ n1_ n2_ n3_ n4_; (try clear hb); (try clear hb2); (try clear hk); (try clear hi); have hnb48 := NB145_132.out; have hnc48 := NB132_145.out; have hnb49 := NB145_136.out; have hnc49 := NB136_145.out; have hcz50_0 : w47.cell? ⟨gb145, 0, none⟩ = some (.int .u32 t137) := (blk_cell BK145.out 0).trans rfl; have hcz50_1 : w47.cell? ⟨gb145, 1, none⟩ = some (.int .u32 t141) := (blk_cell BK145.out 1).trans rfl; have hcz50_2 : w47.cell? ⟨gb145, 2, none⟩ = some (u146002) := (blk_cell BK145.out 2).trans rfl; have hfz50_0 := blk_frozen BK145.out 0; have hfz50_1 := blk_frozen BK145.out 1; have hfz50_2 := blk_frozen BK145.out 2; obtain ⟨Ao51, co51, eo51⟩ := Kd.R_slice HO_146002.out; subst eo51; have hnb52 := NB132_136.out; have hnc52 := NB136_132.out; have hcz53_0 : w47.cell? ⟨gb132, 0, none⟩ = some (.int .u32 0) := (blk_cell BK132.out 0).trans rfl; have hcz53_1 : w47.cell? ⟨gb132, 1, none⟩ = some (.int .u32 0) := (blk_cell BK132.out 1).trans rfl; have hcz53_2 : w47.cell? ⟨gb132, 2, none⟩ = some (.slice none 0 0) := (blk_cell BK132.out 2).trans rfl; have hfz53_0 := blk_frozen BK132.out 0; have hfz53_1 := blk_frozen BK132.out 1; have hfz53_2 := blk_frozen BK132.out 2))
                refine bodyPost_ret (results_ct rfl _ _ gb132 25 #[.int .u32 0, .int .u32 0, .slice none 0 0] (0, 0) _ rfl (by (with_reducible repeat (first | refine blk_drewN ?_ _ | refine blk_drew ?_ | refine blk_alloc ?_ _)); refine blk_put (cs := #[.int .u32 0, .int .u32 0, .slice none 0 0]) ?_ 2 _ rfl; (with_reducible repeat (first | refine blk_drewN ?_ _ | refine blk_drew ?_ | refine blk_alloc ?_ _)); refine blk_put (cs := #[.int .u32 0, .int .u32 0, .slice none 0 0]) ?_ 1 _ rfl; (with_reducible repeat (first | refine blk_drewN ?_ _ | refine blk_drew ?_ | refine blk_alloc ?_ _)); refine blk_put (cs := #[.int .u32 0, .int .u32 0, .slice none 0 0]) ?_ 0 _ rfl; (with_reducible repeat (first | refine blk_drewN ?_ _ | refine blk_drew ?_ | refine blk_alloc ?_ _)); exact BK132.out) Try.underlying25 rfl (by kernel_rfl)) rfl ?_
                exact ⟨_, by first | rfl | (simp [errW_none, errW_some] <;> rfl) | (simp [*, errW_none, errW_some] <;> rfl), by first | exact Kd.R_nil _ _ _ _ _ | exact Kd.N_nil _ _ _ _ _ | exact Kd.V_nil _ _ _ _ _ | exact Kd.Q_nil _ _ _ _ _ | exact Kd.S_nil _ _ _ _ _, by repeat (first | (with_reducible first | exact HB.out | apply below_alloc | apply pw_below_drewN | apply below_drew1 | refine below_set ?_ (IsS75.ge HI136.out) | refine below_set ?_ GE132.out | refine below_set ?_ GE145.out) | exact HB.out)⟩
              · rw [if_neg c46] at H
                have c46b0 : decide (4096 < (x146002_1.length : Int)) = false := decide_eq_false c46
                have c46b1 : decide (4096 < x146002_1.length) = false := decide_eq_false (by omega)
                clear c46
                replace H := Option.bind_eq_some_iff.mp H
                obtain ⟨t164, A540, H⟩ := H
                replace H : (if t164 = true then (some (t137, t141, x146002_1, 0)) else (some (0, 0, ([] : List Int), 110))) = some (r1, r2, r3, r4) := H
                have A54 := Aside0.mk A540
                clear A540
                by_cases c55 : t164 = true
                · subst c55
                  have H1 : (some (t137, t141, x146002_1, 0)) = some (r1, r2, r3, r4) := by rw [if_pos rfl] at H; exact H
                  clear H
                  have H := H1
                  clear H1
                  simp only [Option.some.injEq, Prod.mk.injEq] at H
                  obtain ⟨rfl, rfl, rfl, rfl⟩ := H
                  go_wp2_with (first | ((with_reducible refine gate_callee (f := 31) rfl ?_); refine goesL_ (some 30) rfl rfl Try.func31 (by kernel_rfl) rfl #[.pointer (some ⟨g136, 0, none⟩)] rfl (by (try simp only [List.map_toArray, List.map_cons, List.map_nil]); first | done | rfl | (simp only [List.length_drop, List.length_take]; rfl)) ?_; (with_reducible refine (flywheelref06_Reader_Left.calls g136 x137000_1 x137001_1 x137002_1 t146 t147 t148 t149 w _ ?side1 ?side2 A20.out).mono ?_); (case side1 => repeat (first | (with_reducible first | exact HI136.out | apply IsS75.alloc | apply IsS75.drewN | apply IsS75.drew | apply IsS75.set_0 | apply IsS75.set_1 | apply IsS75.set_2 | refine IsS75.far ?_ NB136_132.out _ | refine IsS75.far ?_ NB136_145.out _) | exact HI136.out)); (case side2 => repeat (first | (with_reducible first | exact HB.out | apply below_alloc | apply pw_below_drewN | apply below_drew1 | refine below_set ?_ (IsS75.ge HI136.out) | refine below_set ?_ GE132.out | refine below_set ?_ GE145.out) | exact HB.out)); rintro e w56 ⟨rfl, hi, hb, hk⟩; refine ⟨_, rfl, ?_⟩; have n0_ := Aside0.mk (Kd.R_mono (Kd.R_keep (IsS75.apart (show IsS75 w _ g136 x137000_1 x137001_1 x137002_1 from by repeat (first | (with_reducible first | exact HI136.out | apply IsS75.alloc | apply IsS75.drewN | apply IsS75.drew | apply IsS75.set_0 | apply IsS75.set_1 | apply IsS75.set_2 | refine IsS75.far ?_ NB136_132.out _ | refine IsS75.far ?_ NB136_145.out _) | exact HI136.out)) (by (with_reducible repeat (first | apply Kd.R_alloc | apply Kd.R_drewN | apply Kd.R_drew)); exact HO_146002.out) (by decide)) hk (fun _ h => h.2)) (fun _ h => h.1)); have n1_ := Aside0.mk (KeepBut.blk hk (g' := gb132) (o := .cells #[.int .u32 0, .int .u32 0, .slice none 0 0] 25 (0, 0)) (by (with_reducible repeat (first | refine blk_drewN ?_ _ | refine blk_drew ?_ | refine blk_alloc ?_ _)); exact BK132.out) NB132_136.out (by simp)); have n2_ := Aside0.mk (KeepBut.blk hk (g' := gb145) (o := .cells #[.int .u32 t137, .int .u32 t141, u146002] 25 (0, 0)) (by (with_reducible repeat (first | refine blk_drewN ?_ _ | refine blk_drew ?_ | refine blk_alloc ?_ _)); exact BK145.out) NB145_136.out (by simp)); have n3_ := Aside0.mk (hb); have n4_ := Aside0.mk (hi); clear HO_146002; clear BK132; clear BK145; clear HB; clear HI136; have HO_146002 := n0_; have BK132 := n1_; have BK145 := n2_; have HB := n3_; have HI136 := n4_; clear n0_ n1_ n2_ n3_ n4_; (try clear hb); (try clear hb2); (try clear hk); (try clear hi); have hnb57 := NB145_132.out; have hnc57 := NB132_145.out; have hnb58 := NB145_136.out; have hnc58 := NB136_145.out; have hcz59_0 : w56.cell? ⟨gb145, 0, none⟩ = some (.int .u32 t137) := (blk_cell BK145.out 0).trans rfl; have hcz59_1 : w56.cell? ⟨gb145, 1, none⟩ = some (.int .u32 t141) := (blk_cell BK145.out 1).trans rfl; have hcz59_2 : w56.cell? ⟨gb145, 2, none⟩ = some (u146002) := (blk_cell BK145.out 2).trans rfl; have hfz59_0 := blk_frozen BK145.out 0; have hfz59_1 := blk_frozen BK145.out 1; have hfz59_2 := blk_frozen BK145.out 2; obtain ⟨Ao60, co60, eo60⟩ := Kd.R_slice HO_146002.out; subst eo60) | ((with_reducible refine gate_callee (f := 21) rfl ?_); refine goesL_ (some 70) rfl rfl Try.func21 (by kernel_rfl) rfl #[.slice Ao60 x146002_1.length co60] rfl (by (try simp only [List.map_toArray, List.map_cons, List.map_nil]); first | done | rfl | (simp only [List.length_drop, List.length_take]; rfl)) ?_; (with_reducible refine (flywheelref11_Good.calls _ _ x146002_1 true _ ?side1 ?side2 A54.out).mono ?_); (case side1 => repeat (first | exact (Kd.R_reads' HO_146002.out).2.2 | (with_reducible refine Kd.C_alloc ?_ _) | (with_reducible refine Kd.C_drewN ?_ _) | (with_reducible refine Kd.C_drew ?_))); (case side2 => exact (Kd.R_reads' HO_146002.out).2.1); rintro e w' ⟨rfl, ⟨nd, rfl⟩⟩; refine ⟨_, rfl, ?_⟩; (try (rw [drewN_self w56]; generalize hq_ : World.drewN w56 _ = w56; have n0_ : Aside0 (Kd.R (Kd.int .i64) 3 w56 w.heap.size (fun _ => True) (.slice Ao60 x146002_1.length co60) x146002_1) := ⟨by rw [← hq_]; exact (by (with_reducible repeat (first | apply Kd.R_alloc | apply Kd.R_drewN | apply Kd.R_drew)); exact HO_146002.out)⟩; have n1_ : Aside0 (w56.heap[gb132]? = some (.cells #[.int .u32 0, .int .u32 0, .slice none 0 0] 25 (0, 0))) := ⟨by rw [← hq_]; exact (by (with_reducible repeat (first | refine blk_drewN ?_ _ | refine blk_drew ?_ | refine blk_alloc ?_ _)); exact BK132.out)⟩; have n2_ : Aside0 (w56.heap[gb145]? = some (.cells #[.int .u32 t137, .int .u32 t141, .slice Ao60 x146002_1.length co60] 25 (0, 0))) := ⟨by rw [← hq_]; exact (by (with_reducible repeat (first | refine blk_drewN ?_ _ | refine blk_drew ?_ | refine blk_alloc ?_ _)); exact BK145.out)⟩; have n3_ : Aside0 (IsS75 w w56 g136 t147 t148 t149) := ⟨by rw [← hq_]; exact (by repeat (first | (with_reducible first | exact HI136.out | apply IsS75.alloc | apply IsS75.drewN | apply IsS75.drew | apply IsS75.set_0 | apply IsS75.set_1 | apply IsS75.set_2 | refine IsS75.far ?_ NB136_132.out _ | refine IsS75.far ?_ NB136_145.out _) | exact HI136.out))⟩; have n4_ : Aside0 (Below w.heap.size w w56) := ⟨by rw [← hq_]; exact (by repeat (first | (with_reducible first | exact HB.out | apply below_alloc | apply pw_below_drewN | apply below_drew1 | refine below_set ?_ (IsS75.ge HI136.out) | refine below_set ?_ GE132.out | refine below_set ?_ GE145.out) | exact HB.out))⟩; clear HO_146002 BK132 BK145 HI136 HB hq_; have HO_146002 := n0_; have BK132 := n1_; have BK145 := n2_; have HI136 := n3_; have HB := n4_; clear n0_ n1_ n2_ n3_ n4_)); have hcz61_0 : w56.cell? ⟨gb145, 0, none⟩ = some (.int .u32 t137) := (blk_cell BK145.out 0).trans rfl; have hcz61_1 : w56.cell? ⟨gb145, 1, none⟩ = some (.int .u32 t141) := (blk_cell BK145.out 1).trans rfl; have hcz61_2 : w56.cell? ⟨gb145, 2, none⟩ = some (.slice Ao60 x146002_1.length co60) := (blk_cell BK145.out 2).trans rfl; have hfz61_0 := blk_frozen BK145.out 0; have hfz61_1 := blk_frozen BK145.out 1; have hfz61_2 := blk_frozen BK145.out 2; have hnb62 := NB132_136.out; have hnc62 := NB136_132.out; have hcz63_0 : w56.cell? ⟨gb132, 0, none⟩ = some (.int .u32 0) := (blk_cell BK132.out 0).trans rfl; have hcz63_1 : w56.cell? ⟨gb132, 1, none⟩ = some (.int .u32 0) := (blk_cell BK132.out 1).trans rfl; have hcz63_2 : w56.cell? ⟨gb132, 2, none⟩ = some (.slice none 0 0) := (blk_cell BK132.out 2).trans rfl; have hfz63_0 := blk_frozen BK132.out 0; have hfz63_1 := blk_frozen BK132.out 1; have hfz63_2 := blk_frozen BK132.out 2))
                  refine bodyPost_ret (results_ct rfl _ _ gb132 25 #[.int .u32 t137, .int .u32 t141, .slice Ao60 x146002_1.length co60] (0, 0) _ rfl (by (with_reducible repeat (first | refine blk_drewN ?_ _ | refine blk_drew ?_ | refine blk_alloc ?_ _)); refine blk_put (cs := #[.int .u32 t137, .int .u32 t141, .slice none 0 0]) ?_ 2 _ rfl; (with_reducible repeat (first | refine blk_drewN ?_ _ | refine blk_drew ?_ | refine blk_alloc ?_ _)); refine blk_put (cs := #[.int .u32 t137, .int .u32 0, .slice none 0 0]) ?_ 1 _ rfl; (with_reducible repeat (first | refine blk_drewN ?_ _ | refine blk_drew ?_ | refine blk_alloc ?_ _)); refine blk_put (cs := #[.int .u32 0, .int .u32 0, .slice none 0 0]) ?_ 0 _ rfl; (with_reducible repeat (first | refine blk_drewN ?_ _ | refine blk_drew ?_ | refine blk_alloc ?_ _)); exact BK132.out) Try.underlying25 rfl (by kernel_rfl)) rfl ?_
                  exact ⟨_, by first | rfl | (simp [errW_none, errW_some] <;> rfl) | (simp [*, errW_none, errW_some] <;> rfl), by (with_reducible repeat (first | apply Kd.R_alloc | apply Kd.R_drewN | apply Kd.R_drew)); exact Kd.R_mono (Kd.R_far (p := ⟨gb132, 2, none⟩) (Kd.R_far (p := ⟨gb132, 1, none⟩) (Kd.R_far (p := ⟨gb132, 0, none⟩) (Kd.R_types HO_146002.out BK132.out (by decide)) (fun _ hk => hk.2) (.int .u32 t137)) (fun _ hk => hk.2) (.int .u32 t141)) (fun _ hk => hk.2) (.slice Ao60 x146002_1.length co60)) (fun _ hk => trivial), by repeat (first | (with_reducible first | exact HB.out | apply below_alloc | apply pw_below_drewN | apply below_drew1 | refine below_set ?_ (IsS75.ge HI136.out) | refine below_set ?_ GE132.out | refine below_set ?_ GE145.out) | exact HB.out)⟩
                · replace c55 := Bool.eq_false_iff.mpr c55
                  subst c55
                  have H1 : (some (0, 0, ([] : List Int), 110)) = some (r1, r2, r3, r4) := by rw [if_neg (show ¬ (false = true) by decide)] at H; exact H
                  clear H
                  have H := H1
                  clear H1
                  simp only [Option.some.injEq, Prod.mk.injEq] at H
                  obtain ⟨rfl, rfl, rfl, rfl⟩ := H
                  go_wp2_with (first | ((with_reducible refine gate_callee (f := 31) rfl ?_); refine goesL_ (some 30) rfl rfl Try.func31 (by kernel_rfl) rfl #[.pointer (some ⟨g136, 0, none⟩)] rfl (by (try simp only [List.map_toArray, List.map_cons, List.map_nil]); first | done | rfl | (simp only [List.length_drop, List.length_take]; rfl)) ?_; (with_reducible refine (flywheelref06_Reader_Left.calls g136 x137000_1 x137001_1 x137002_1 t146 t147 t148 t149 w _ ?side1 ?side2 A20.out).mono ?_); (case side1 => repeat (first | (with_reducible first | exact HI136.out | apply IsS75.alloc | apply IsS75.drewN | apply IsS75.drew | apply IsS75.set_0 | apply IsS75.set_1 | apply IsS75.set_2 | refine IsS75.far ?_ NB136_132.out _ | refine IsS75.far ?_ NB136_145.out _) | exact HI136.out)); (case side2 => repeat (first | (with_reducible first | exact HB.out | apply below_alloc | apply pw_below_drewN | apply below_drew1 | refine below_set ?_ (IsS75.ge HI136.out) | refine below_set ?_ GE132.out | refine below_set ?_ GE145.out) | exact HB.out)); rintro e w64 ⟨rfl, hi, hb, hk⟩; refine ⟨_, rfl, ?_⟩; have n0_ := Aside0.mk (Kd.R_mono (Kd.R_keep (IsS75.apart (show IsS75 w _ g136 x137000_1 x137001_1 x137002_1 from by repeat (first | (with_reducible first | exact HI136.out | apply IsS75.alloc | apply IsS75.drewN | apply IsS75.drew | apply IsS75.set_0 | apply IsS75.set_1 | apply IsS75.set_2 | refine IsS75.far ?_ NB136_132.out _ | refine IsS75.far ?_ NB136_145.out _) | exact HI136.out)) (by (with_reducible repeat (first | apply Kd.R_alloc | apply Kd.R_drewN | apply Kd.R_drew)); exact HO_146002.out) (by decide)) hk (fun _ h => h.2)) (fun _ h => h.1)); have n1_ := Aside0.mk (KeepBut.blk hk (g' := gb132) (o := .cells #[.int .u32 0, .int .u32 0, .slice none 0 0] 25 (0, 0)) (by (with_reducible repeat (first | refine blk_drewN ?_ _ | refine blk_drew ?_ | refine blk_alloc ?_ _)); exact BK132.out) NB132_136.out (by simp)); have n2_ := Aside0.mk (KeepBut.blk hk (g' := gb145) (o := .cells #[.int .u32 t137, .int .u32 t141, u146002] 25 (0, 0)) (by (with_reducible repeat (first | refine blk_drewN ?_ _ | refine blk_drew ?_ | refine blk_alloc ?_ _)); exact BK145.out) NB145_136.out (by simp)); have n3_ := Aside0.mk (hb); have n4_ := Aside0.mk (hi); clear HO_146002; clear BK132; clear BK145; clear HB; clear HI136; have HO_146002 := n0_; have BK132 := n1_; have BK145 := n2_; have HB := n3_; have HI136 := n4_; clear n0_ n1_ n2_ n3_ n4_; (try clear hb); (try clear hb2); (try clear hk); (try clear hi); have hnb65 := NB145_132.out; have hnc65 := NB132_145.out; have hnb66 := NB145_136.out; have hnc66 := NB136_145.out; have hcz67_0 : w64.cell? ⟨gb145, 0, none⟩ = some (.int .u32 t137) := (blk_cell BK145.out 0).trans rfl; have hcz67_1 : w64.cell? ⟨gb145, 1, none⟩ = some (.int .u32 t141) := (blk_cell BK145.out 1).trans rfl; have hcz67_2 : w64.cell? ⟨gb145, 2, none⟩ = some (u146002) := (blk_cell BK145.out 2).trans rfl; have hfz67_0 := blk_frozen BK145.out 0; have hfz67_1 := blk_frozen BK145.out 1; have hfz67_2 := blk_frozen BK145.out 2; obtain ⟨Ao68, co68, eo68⟩ := Kd.R_slice HO_146002.out; subst eo68) | ((with_reducible refine gate_callee (f := 21) rfl ?_); refine goesL_ (some 70) rfl rfl Try.func21 (by kernel_rfl) rfl #[.slice Ao68 x146002_1.length co68] rfl (by (try simp only [List.map_toArray, List.map_cons, List.map_nil]); first | done | rfl | (simp only [List.length_drop, List.length_take]; rfl)) ?_; (with_reducible refine (flywheelref11_Good.calls _ _ x146002_1 false _ ?side1 ?side2 A54.out).mono ?_); (case side1 => repeat (first | exact (Kd.R_reads' HO_146002.out).2.2 | (with_reducible refine Kd.C_alloc ?_ _) | (with_reducible refine Kd.C_drewN ?_ _) | (with_reducible refine Kd.C_drew ?_))); (case side2 => exact (Kd.R_reads' HO_146002.out).2.1); rintro e w' ⟨rfl, ⟨nd, rfl⟩⟩; refine ⟨_, rfl, ?_⟩; (try (rw [drewN_self w64]; generalize hq_ : World.drewN w64 _ = w64; have n0_ : Aside0 (Kd.R (Kd.int .i64) 3 w64 w.heap.size (fun _ => True) (.slice Ao68 x146002_1.length co68) x146002_1) := ⟨by rw [← hq_]; exact (by (with_reducible repeat (first | apply Kd.R_alloc | apply Kd.R_drewN | apply Kd.R_drew)); exact HO_146002.out)⟩; have n1_ : Aside0 (w64.heap[gb132]? = some (.cells #[.int .u32 0, .int .u32 0, .slice none 0 0] 25 (0, 0))) := ⟨by rw [← hq_]; exact (by (with_reducible repeat (first | refine blk_drewN ?_ _ | refine blk_drew ?_ | refine blk_alloc ?_ _)); exact BK132.out)⟩; have n2_ : Aside0 (w64.heap[gb145]? = some (.cells #[.int .u32 t137, .int .u32 t141, .slice Ao68 x146002_1.length co68] 25 (0, 0))) := ⟨by rw [← hq_]; exact (by (with_reducible repeat (first | refine blk_drewN ?_ _ | refine blk_drew ?_ | refine blk_alloc ?_ _)); exact BK145.out)⟩; have n3_ : Aside0 (IsS75 w w64 g136 t147 t148 t149) := ⟨by rw [← hq_]; exact (by repeat (first | (with_reducible first | exact HI136.out | apply IsS75.alloc | apply IsS75.drewN | apply IsS75.drew | apply IsS75.set_0 | apply IsS75.set_1 | apply IsS75.set_2 | refine IsS75.far ?_ NB136_132.out _ | refine IsS75.far ?_ NB136_145.out _) | exact HI136.out))⟩; have n4_ : Aside0 (Below w.heap.size w w64) := ⟨by rw [← hq_]; exact (by repeat (first | (with_reducible first | exact HB.out | apply below_alloc | apply pw_below_drewN | apply below_drew1 | refine below_set ?_ (IsS75.ge HI136.out) | refine below_set ?_ GE132.out | refine below_set ?_ GE145.out) | exact HB.out))⟩; clear HO_146002 BK132 BK145 HI136 HB hq_; have HO_146002 := n0_; have BK132 := n1_; have BK145 := n2_; have HI136 := n3_; have HB := n4_; clear n0_ n1_ n2_ n3_ n4_)); have hnb69 := NB132_136.out; have hnc69 := NB136_132.out; have hcz70_0 : w64.cell? ⟨gb132, 0, none⟩ = some (.int .u32 0) := (blk_cell BK132.out 0).trans rfl; have hcz70_1 : w64.cell? ⟨gb132, 1, none⟩ = some (.int .u32 0) := (blk_cell BK132.out 1).trans rfl; have hcz70_2 : w64.cell? ⟨gb132, 2, none⟩ = some (.slice none 0 0) := (blk_cell BK132.out 2).trans rfl; have hfz70_0 := blk_frozen BK132.out 0; have hfz70_1 := blk_frozen BK132.out 1; have hfz70_2 := blk_frozen BK132.out 2))
                  refine bodyPost_ret (results_ct rfl _ _ gb132 25 #[.int .u32 0, .int .u32 0, .slice none 0 0] (0, 0) _ rfl (by (with_reducible repeat (first | refine blk_drewN ?_ _ | refine blk_drew ?_ | refine blk_alloc ?_ _)); refine blk_put (cs := #[.int .u32 0, .int .u32 0, .slice none 0 0]) ?_ 2 _ rfl; (with_reducible repeat (first | refine blk_drewN ?_ _ | refine blk_drew ?_ | refine blk_alloc ?_ _)); refine blk_put (cs := #[.int .u32 0, .int .u32 0, .slice none 0 0]) ?_ 1 _ rfl; (with_reducible repeat (first | refine blk_drewN ?_ _ | refine blk_drew ?_ | refine blk_alloc ?_ _)); refine blk_put (cs := #[.int .u32 0, .int .u32 0, .slice none 0 0]) ?_ 0 _ rfl; (with_reducible repeat (first | refine blk_drewN ?_ _ | refine blk_drew ?_ | refine blk_alloc ?_ _)); exact BK132.out) Try.underlying25 rfl (by kernel_rfl)) rfl ?_
                  exact ⟨_, by first | rfl | (simp [errW_none, errW_some] <;> rfl) | (simp [*, errW_none, errW_some] <;> rfl), by first | exact Kd.R_nil _ _ _ _ _ | exact Kd.N_nil _ _ _ _ _ | exact Kd.V_nil _ _ _ _ _ | exact Kd.Q_nil _ _ _ _ _ | exact Kd.S_nil _ _ _ _ _, by repeat (first | (with_reducible first | exact HB.out | apply below_alloc | apply pw_below_drewN | apply below_drew1 | refine below_set ?_ (IsS75.ge HI136.out) | refine below_set ?_ GE132.out | refine below_set ?_ GE145.out) | exact HB.out)⟩
    · rw [if_neg c5] at H
      have c5b0 : (((a0.size : Int) % 4) == 0) = false := beq_eq_false_iff_ne.mpr c5
      have c5b1 : (((a0.size : Int) % 4) != 0) = true := bne_iff_ne.mpr c5
      simp only [Option.some.injEq, Prod.mk.injEq] at H
      obtain ⟨rfl, rfl, rfl, rfl⟩ := H
      go_enter Try.func14, Try.ntmps14
      go_wp2_with (first | ((with_reducible refine gate_dst (N := 2) rfl ?_); refine box_event ?hg (N := 2) ?hd (cs := #[.int .u32 0, .int .u32 0, .slice none 0 0]) (t := 25) ?hr ?_; (case hd => rfl); (case hg => rfl); (case hr => first | (go_simp; done) | (go_simp; rfl)); intro gb132 hg w71 hbox hb; have n0_ := Aside0.mk (below_step (by repeat (first | (with_reducible first | exact HB.out | apply below_alloc | apply pw_below_drewN | apply below_drew1) | exact HB.out)) hb); have n1_ := Aside0.mk (hbox); have n2_ := Aside0.mk ((by rw [hg]; exact (below_size (by repeat (first | (with_reducible first | exact HB.out | apply below_alloc | apply pw_below_drewN | apply below_drew1) | exact HB.out))) : w.heap.size ≤ gb132)); have n3_ := Aside0.mk ((by rw [hg]; exact (below_size (by repeat (first | (with_reducible first | exact HB.out | apply below_alloc | apply pw_below_drewN | apply below_drew1) | exact HB.out))) : w.heap.size ≤ gb132)); clear HB; have HB := n0_; have BK132 := n1_; have GW132 := n2_; have GE132 := n3_; clear n0_ n1_ n2_ n3_; clear hb hbox hg; have hcz72_0 : w71.cell? ⟨gb132, 0, none⟩ = some (.int .u32 0) := (blk_cell BK132.out 0).trans rfl; have hcz72_1 : w71.cell? ⟨gb132, 1, none⟩ = some (.int .u32 0) := (blk_cell BK132.out 1).trans rfl; have hcz72_2 : w71.cell? ⟨gb132, 2, none⟩ = some (.slice none 0 0) := (blk_cell BK132.out 2).trans rfl; have hfz72_0 := blk_frozen BK132.out 0; have hfz72_1 := blk_frozen BK132.out 1; have hfz72_2 := blk_frozen BK132.out 2))
      refine bodyPost_ret (results_ct rfl _ _ gb132 25 #[.int .u32 0, .int .u32 0, .slice none 0 0] (0, 0) _ rfl (by (with_reducible repeat (first | refine blk_drewN ?_ _ | refine blk_drew ?_ | refine blk_alloc ?_ _)); refine blk_put (cs := #[.int .u32 0, .int .u32 0, .slice none 0 0]) ?_ 2 _ rfl; (with_reducible repeat (first | refine blk_drewN ?_ _ | refine blk_drew ?_ | refine blk_alloc ?_ _)); refine blk_put (cs := #[.int .u32 0, .int .u32 0, .slice none 0 0]) ?_ 1 _ rfl; (with_reducible repeat (first | refine blk_drewN ?_ _ | refine blk_drew ?_ | refine blk_alloc ?_ _)); refine blk_put (cs := #[.int .u32 0, .int .u32 0, .slice none 0 0]) ?_ 0 _ rfl; (with_reducible repeat (first | refine blk_drewN ?_ _ | refine blk_drew ?_ | refine blk_alloc ?_ _)); exact BK132.out) Try.underlying25 rfl (by kernel_rfl)) rfl ?_
      exact ⟨_, by first | rfl | (simp [errW_none, errW_some] <;> rfl) | (simp [*, errW_none, errW_some] <;> rfl), by first | exact Kd.R_nil _ _ _ _ _ | exact Kd.N_nil _ _ _ _ _ | exact Kd.V_nil _ _ _ _ _ | exact Kd.Q_nil _ _ _ _ _ | exact Kd.S_nil _ _ _ _ _, by repeat (first | (with_reducible first | exact HB.out | apply below_alloc | apply pw_below_drewN | apply below_drew1 | refine below_set ?_ GE132.out) | exact HB.out)⟩

end Go.Proofs.Ytnllbldfganfgaa.PNackDecodes
