/-
  What a number fades to, as the program has it. Walk over the program.
-/
import Derived.Test.YtbdnbndmiekejaaDoorFf
namespace Go.Proofs.YtbdnbndmiekejaaDoor.B
open Go.RowKit Go.Proofs.YtbdnbndmiekejaaDoorW.PrintWords Go.Proofs.YtbdnbndmiekejaaDoorW.PrintLast Go.Proofs.YtbdnbndmiekejaaDoorW.PrintMore
set_option linter.unusedVariables false
set_option linter.unusedSimpArgs false
/-- The factors lie where the program lays them. -/
def Factors (w : World) : Prop := w.cell? ⟨1, 0, none⟩ = some (.int .i64 (-2977044472)) ∧ w.cell? ⟨1, 1, none⟩ = some (.int .i64 1031764991) ∧ w.cell? ⟨1, 2, none⟩ = some (.int .i64 (-206353000))
theorem Factors.below {w w1 : World} (h : Factors w) (k : Below w.heap.size w w1) : Factors w1 := by
  have h0 := World.block_lt_of_cell? w _ h.1
  have hb : w1.heap[(1 : Nat)]? = w.heap[(1 : Nat)]? := k.block _ h0
  refine ⟨?_, ?_, ?_⟩
  · rw [World.cell?_of_block (w := w) hb]
    exact h.1
  · rw [World.cell?_of_block (w := w) hb]
    exact h.2.1
  · rw [World.cell?_of_block (w := w) hb]
    exact h.2.2
def FdRel (w : World) (f m1 f2 m2 f3 m3 f4 : Int) (v6 v7 v27 : Value) (wr : World) : Prop :=
  (v27 = .int .i64 0 ∧ v6 = .int .i64 4294967296 ∧ v7 = .int .i64 f ∨ v27 = .int .i64 1 ∧ v6 = .int .i64 (4294967296 - m1) ∧ v7 = .int .i64 f2 ∨ v27 = .int .i64 2 ∧ v6 = .int .i64 (4294967296 - m1 + m2) ∧ v7 = .int .i64 f3 ∨ v27 = .int .i64 3 ∧ v6 = .int .i64 (4294967296 - m1 + m2 - m3) ∧ v7 = .int .i64 f4) ∧ Aside0 (Below w.heap.size w wr)
set_option maxHeartbeats 4000000 in
theorem fade_mid (x y n f m1 f2 m2 f3 m3 f4 V : Int) (w : World) (hF : Factors w) (hx0 : 0 < x) (hx1 : x < 94489280512)
    (hf0 : 0 ≤ f) (hf1 : f < 4294967296) (hm1 : 0 ≤ m1 ∧ m1 ≤ 2977044472) (hm2 : 0 ≤ m2 ∧ m2 ≤ m1) (hm3 : 0 ≤ m3 ∧ m3 ≤ 206353000) (hy0 : 0 ≤ y) (hy1 : y ≤ 136319216419) (hn : f = y - n * 4294967296)
    (CO : Aside0 (∀ w, Calls Tryd.prog 19 #[.int .i64 22] w fun e w' => e = .returned (.int .i64 94489280512) ∧ Below w.heap.size w w'))
    (CY : Aside0 (∀ w, Calls Tryd.prog 21 #[.int .i64 x, .int .i64 6196328019] w fun e w' => e = .returned (.int .i64 y) ∧ Below w.heap.size w w'))
    (CI : Aside0 (∀ w, Calls Tryd.prog 20 #[.int .i64 y] w fun e w' => e = .returned (.int .i64 n) ∧ Below w.heap.size w w'))
    (CN : Aside0 (∀ w, Calls Tryd.prog 19 #[.int .i64 n] w fun e w' => e = .returned (.int .i64 (n * 4294967296)) ∧ Below w.heap.size w w'))
    (C1 : Aside0 (∀ w, Calls Tryd.prog 21 #[.int .i64 f, .int .i64 2977044472] w fun e w' => e = .returned (.int .i64 m1) ∧ Below w.heap.size w w'))
    (C2 : Aside0 (∀ w, Calls Tryd.prog 21 #[.int .i64 f, .int .i64 f] w fun e w' => e = .returned (.int .i64 f2) ∧ Below w.heap.size w w'))
    (C3 : Aside0 (∀ w, Calls Tryd.prog 21 #[.int .i64 f2, .int .i64 1031764991] w fun e w' => e = .returned (.int .i64 m2) ∧ Below w.heap.size w w'))
    (C4 : Aside0 (∀ w, Calls Tryd.prog 21 #[.int .i64 f2, .int .i64 f] w fun e w' => e = .returned (.int .i64 f3) ∧ Below w.heap.size w w'))
    (C5 : Aside0 (∀ w, Calls Tryd.prog 21 #[.int .i64 f3, .int .i64 206353000] w fun e w' => e = .returned (.int .i64 m3) ∧ Below w.heap.size w w'))
    (C6 : Aside0 (∀ w, Calls Tryd.prog 21 #[.int .i64 f3, .int .i64 f] w fun e w' => e = .returned (.int .i64 f4) ∧ Below w.heap.size w w'))
    (CH : Aside0 (∀ w, Calls Tryd.prog 26 #[.int .i64 (4294967296 - m1 + m2 - m3), .int .i64 n] w fun e w' => e = .returned (.int .i64 V) ∧ w' = w)) :
    Calls Tryd.prog 17 #[.int .i64 x] w fun e w' => e = .returned (.int .i64 V) ∧ Below w.heap.size w w' := by
  have q1 := hm1.1
  have q2 := hm1.2
  have q3 := hm2.1
  have q4 := hm2.2
  have q5 := hm3.1
  have q6 := hm3.2
  have HF := Aside0.mk hF
  have HN := Aside0.mk hn
  have r1 : decide (x ≤ 0) = false := by simp; omega
  have r2 : decide (94489280512 ≤ x) = false := by simp; omega
  obtain ⟨n32, hn32⟩ : ∃ m, m = n * 4294967296 := ⟨_, rfl⟩
  rw [← hn32] at CN
  have hfn : f = y - n32 := by omega
  have b1 : -4294967296 ≤ n32 := by omega
  have b2 : n32 ≤ 136319216419 := by omega
  have HFN := Aside0.mk hfn
  clear hF hn hm1 hm2 hm3 hn32 hfn
  go_enter Tryd.func17, Tryd.ntmps17
  go_wp2_with fail
  refine (CO.out _).mono ?_
  rintro e w1 ⟨rfl, hb⟩
  have B1 := Aside0.mk hb
  clear hb
  go_wp2_with fail
  refine (CY.out _).mono ?_
  rintro e w2 ⟨rfl, hb⟩
  have B2 := Aside0.mk (B1.out.trans (hb.mono B1.out.size))
  clear hb
  go_wp2_with fail
  refine (CI.out _).mono ?_
  rintro e w3 ⟨rfl, hb⟩
  have B3 := Aside0.mk (B2.out.trans (hb.mono B2.out.size))
  clear hb
  go_wp2_with fail
  refine (CN.out _).mono ?_
  rintro e w4 ⟨rfl, hb⟩
  have B4 := Aside0.mk (B3.out.trans (hb.mono B3.out.size))
  clear hb
  have F4 := HF.out.below B4.out
  have c0 := F4.1
  have c1 := F4.2.1
  have c2 := F4.2.2
  clear F4
  have i0 : ∀ w, (Instr.index 51 (.agg #[.int .i64 (-2977044472), .int .i64 1031764991, .int .i64 (-206353000)]) (.int .i64 0)).run Tryd.prog w = .ok (.int .i64 (-2977044472)) w := fun _ => by kernel_rfl
  have i1 : ∀ w, (Instr.index 51 (.agg #[.int .i64 (-2977044472), .int .i64 1031764991, .int .i64 (-206353000)]) (.int .i64 1)).run Tryd.prog w = .ok (.int .i64 1031764991) w := fun _ => by kernel_rfl
  have i2 : ∀ w, (Instr.index 51 (.agg #[.int .i64 (-2977044472), .int .i64 1031764991, .int .i64 (-206353000)]) (.int .i64 2)).run Tryd.prog w = .ok (.int .i64 (-206353000)) w := fun _ => by kernel_rfl
  go_wp2_with fail
  rw [← HFN.out]
  go_loopw [6, 7, 27] (fun v6 v7 v27 wr => FdRel w f m1 f2 m2 f3 m3 f4 v6 v7 v27 wr) (fun _ _ v _ => 3 - (intOf v).toNat)
  case atStart => exact ⟨.inl ⟨rfl, rfl, rfl⟩, B4⟩
  case round =>
    obtain ⟨hk, hB⟩ := hrel
    rcases hk with ⟨rfl, rfl, rfl⟩ | ⟨rfl, rfl, rfl⟩ | ⟨rfl, rfl, rfl⟩ | ⟨rfl, rfl, rfl⟩
    · go_wp2_with fail
      refine (C1.out _).mono ?_
      rintro e w5 ⟨rfl, hb⟩
      have B5 := Aside0.mk (hB.out.trans (hb.mono hB.out.size))
      clear hb
      go_wp2_with fail
      refine (C2.out _).mono ?_
      rintro e w6 ⟨rfl, hb⟩
      have B6 := Aside0.mk (B5.out.trans (hb.mono B5.out.size))
      clear hb
      go_wp2_with fail
      exact ⟨⟨.inr (.inl ⟨rfl, rfl, rfl⟩), B6⟩, by simp [intOf]⟩
    · go_wp2_with fail
      refine (C3.out _).mono ?_
      rintro e w5 ⟨rfl, hb⟩
      have B5 := Aside0.mk (hB.out.trans (hb.mono hB.out.size))
      clear hb
      go_wp2_with fail
      refine (C4.out _).mono ?_
      rintro e w6 ⟨rfl, hb⟩
      have B6 := Aside0.mk (B5.out.trans (hb.mono B5.out.size))
      clear hb
      go_wp2_with fail
      exact ⟨⟨.inr (.inr (.inl ⟨rfl, rfl, rfl⟩)), B6⟩, by simp [intOf]⟩
    · go_wp2_with fail
      refine (C5.out _).mono ?_
      rintro e w5 ⟨rfl, hb⟩
      have B5 := Aside0.mk (hB.out.trans (hb.mono hB.out.size))
      clear hb
      go_wp2_with fail
      refine (C6.out _).mono ?_
      rintro e w6 ⟨rfl, hb⟩
      have B6 := Aside0.mk (B5.out.trans (hb.mono B5.out.size))
      clear hb
      go_wp2_with fail
      exact ⟨⟨.inr (.inr (.inr ⟨rfl, rfl, rfl⟩)), B6⟩, by simp [intOf]⟩
    · go_wp2_with fail
      refine (CH.out _).mono ?_
      rintro e w5 ⟨rfl, rfl⟩
      go_wp2_with fail
      go_ret
      exact ⟨rfl, hB.out⟩
theorem fade_high (x : Int) (hx : 94489280512 ≤ x) (w : World) : Calls Tryd.prog 17 #[.int .i64 x] w fun e w' => e = .returned (.int .i64 0) ∧ Below w.heap.size w w' := by
  have C := Aside0.mk (fun w => fof_any 22 (by decide) w)
  rw [show hold (22 * 4294967296) = 94489280512 by decide] at C
  have r1 : decide (x ≤ 0) = false := by simp; omega
  have r2 : decide (94489280512 ≤ x) = true := by simp; omega
  go_enter Tryd.func17, Tryd.ntmps17
  go_wp2_with fail
  refine (C.out _).mono ?_
  rintro e w1 ⟨rfl, hb⟩
  go_wp2_with fail
  go_ret
  exact ⟨rfl, hb⟩
/-- The numbers on the way. -/
theorem fade_way (x : Int) (hx0 : 0 < x) (hx1 : x < 94489280512) : ∃ y n f m1 f2 m2 f3 m3 f4 : Int, 0 ≤ f ∧ f < 4294967296 ∧ (0 ≤ m1 ∧ m1 ≤ 2977044472) ∧ (0 ≤ m2 ∧ m2 ≤ m1) ∧ (0 ≤ m3 ∧ m3 ≤ 206353000) ∧ 0 ≤ y ∧ y ≤ 136319216419 ∧ f = y - n * 4294967296 ∧ I64 f ∧ I64 f2 ∧ I64 f3 ∧ I64 y ∧ I64 n ∧ I64 (4294967296 - m1 + m2 - m3) ∧
    mdo x 6196328019 4294967296 2 = y ∧ mdo y 1 4294967296 1 = n ∧ hold (n * 4294967296) = n * 4294967296 ∧ mdo f 2977044472 4294967296 2 = m1 ∧ mdo f f 4294967296 2 = f2 ∧ mdo f2 1031764991 4294967296 2 = m2 ∧ mdo f2 f 4294967296 2 = f3 ∧ mdo f3 206353000 4294967296 2 = m3 ∧ mdo f3 f 4294967296 2 = f4 ∧ halfI (4294967296 - m1 + m2 - m3) n = fadeI x := by
  obtain ⟨y1, y2, y3, y4, y5⟩ := fade_y x hx0 hx1
  have hn0 : 0 ≤ mI x 6196328019 / 4294967296 := by omega
  have hn1 : mI x 6196328019 / 4294967296 ≤ 31 := by omega
  have hf0 : 0 ≤ mI x 6196328019 % 4294967296 := by omega
  have hf1 : mI x 6196328019 % 4294967296 < 4294967296 := by omega
  have hfy : mI x 6196328019 % 4294967296 = mI x 6196328019 - mI x 6196328019 / 4294967296 * 4294967296 := by omega
  have hfd : fadeI x = fdP (mI x 6196328019 % 4294967296) / 2 ^ (mI x 6196328019 / 4294967296).toNat := by
    unfold fadeI
    rw [if_neg (by omega), if_neg (by omega)]
  rw [hfd]
  clear hfd
  generalize mI x 6196328019 / 4294967296 = n at *
  generalize mI x 6196328019 % 4294967296 = f at *
  generalize mI x 6196328019 = y at *
  obtain ⟨a, b, c, d, e, g⟩ := fd_facts f hf0 hf1
  have hp := fdP_range f hf0 hf1
  refine ⟨y, n, f, mI f 2977044472, mI f f, mI (mI f f) 1031764991, mI (mI f f) f, mI (mI (mI f f) f) 206353000, mI (mI (mI f f) f) f, hf0, hf1, a, c, e, y2, y3, hfy, ⟨by omega, by omega⟩, ⟨by omega, by omega⟩, ⟨by omega, by omega⟩, ⟨by omega, by omega⟩, ⟨by omega, by omega⟩, ⟨by omega, by omega⟩, y1, y4, y5, (mI_eq f 2977044472 hf0 (by omega) (by omega) (by omega)).1, (mI_eq f f hf0 (by omega) hf0 (by omega)).1, (mI_eq (mI f f) 1031764991 b.1 (by omega) (by omega) (by omega)).1, (mI_eq (mI f f) f b.1 (by omega) hf0 (by omega)).1, (mI_eq (mI (mI f f) f) 206353000 d.1 (by omega) (by omega) (by omega)).1, (mI_eq (mI (mI f f) f) f d.1 (by omega) hf0 (by omega)).1, ?_⟩
  unfold halfI fdP
  rw [if_neg (by omega), if_neg (by omega)]
theorem fade_any (x : Int) (w : World) (hx : I64 x) (hF : Factors w) : Calls Tryd.prog 17 #[.int .i64 x] w fun e w' => e = .returned (.int .i64 (fadeI x)) ∧ Below w.heap.size w w' := by
  by_cases h0 : x ≤ 0
  · rw [show fadeI x = 4294967296 by unfold fadeI; rw [if_pos h0]]
    refine (fade_low x h0 w).mono ?_
    rintro e w' ⟨he, rfl⟩
    exact ⟨he, Below.refl _ _⟩
  · by_cases h1 : 94489280512 ≤ x
    · rw [show fadeI x = 0 by unfold fadeI; rw [if_neg h0, if_pos h1]]
      exact fade_high x h1 w
    · obtain ⟨y, n, f, m1, f2, m2, f3, m3, f4, p1, p2, p3, p4, p5, p6, p7, p8, i1, i2, i3, i4, i5, i6, e1, e2, e3, e4, e5, e6, e7, e8, e9, e10⟩ := fade_way x (by omega) (by omega)
      exact fade_mid x y n f m1 f2 m2 f3 m3 f4 _ w hF (by omega) (by omega) p1 p2 p3 p4 p5 p6 p7 p8 ⟨fun w => by have := fof_any 22 (by decide) w; rw [show hold (22 * 4294967296) = 94489280512 by decide] at this; exact this⟩ ⟨fun w => e1 ▸ fmul_any x 6196328019 hx (by decide) w⟩ ⟨fun w => e2 ▸ fint_any y i4 w⟩ ⟨fun w => by have := fof_any n i5 w; rw [e3] at this; exact this⟩ ⟨fun w => e4 ▸ fmul_any f 2977044472 i1 (by decide) w⟩ ⟨fun w => e5 ▸ fmul_any f f i1 i1 w⟩ ⟨fun w => e6 ▸ fmul_any f2 1031764991 i2 (by decide) w⟩ ⟨fun w => e7 ▸ fmul_any f2 f i2 i1 w⟩ ⟨fun w => e8 ▸ fmul_any f3 206353000 i3 (by decide) w⟩ ⟨fun w => e9 ▸ fmul_any f3 f i3 i1 w⟩ ⟨fun w => half_run _ n _ i6 i5 e10 w⟩
end Go.Proofs.YtbdnbndmiekejaaDoor.B
