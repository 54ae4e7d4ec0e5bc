/-
  The law's wakes, and ConsoleParses. Walks.
-/
import Derived.Test.YtkjjjgplidompaaDoorKn
namespace Go.Proofs.YtkjjjgplidompaaDoor.B
open Go.RowKit Go.Proofs.YtkjjjgplidompaaDoorW.PrintWords Go.Proofs.YtkjjjgplidompaaDoorW.PrintLast Go.Proofs.YtkjjjgplidompaaDoorW.PrintMore
set_option linter.unusedVariables false
set_option linter.unusedSimpArgs false
theorem wk1 : parseL [101, 32, 53, 32, 49, 32, 48, 32, 50, 32, 49, 50, 48, 48] = some ⟨1, 5, 1, 0, 2, 1200, []⟩ := by kernel_rfl
theorem wk2 : parseL [102, 32, 55, 32, 97, 48, 48, 49] = some ⟨3, 7, 0, 0, 0, 0, [160, 1]⟩ := by kernel_rfl
theorem wk3 : parseL [116, 32, 48, 53] = none := by kernel_rfl
theorem wkI : StI ⟨3, 7, 0, 0, 0, 0, [160, 1]⟩ := ⟨by decide, by decide, by decide, by decide, by decide, by decide⟩
set_option maxHeartbeats 4000000 in
set_option maxRecDepth 100000 in
theorem wakes_true (w : World) (hT : Tab w) : Calls Tryd.prog 7 #[] w fun e w' => e = .returned (.bool true) ∧ Below w.heap.size w w' := by
  have HP1 := Aside0.mk (fun w => parse_any (tx [101, 32, 53, 32, 49, 32, 48, 32, 50, 32, 49, 50, 48, 48]) w (by decide))
  have HP3 := Aside0.mk (fun w => parse_any (tx [116, 32, 48, 53]) w (by decide))
  rw [tx_data] at HP1 HP3
  unfold ParPost at HP1 HP3
  rw [parV_some wk1] at HP1
  rw [parV_none wk3] at HP3
  have HL := Aside0.mk (fun w hT => line_any ⟨3, 7, 0, 0, 0, 0, [160, 1]⟩ w hT wkI)
  unfold LinePost at HL
  rw [lineV_some (parse_line wk2)] at HL
  unfold stV stC at HP1 HP3 HL
  unfold stZ at HP3
  dsimp only at HP1 HP3 HL
  go_enter Tryd.func7, Tryd.ntmps7
  go_wp2_with fail
  refine (HP1.out _).mono ?_
  rintro e w1 ⟨rfl, hb1⟩
  have hT1 := hT.below (hb1.alloc hb1.size (.cells #[.int .i64 1, .int .i64 5, .int .i64 1, .int .i64 0, .int .i64 2, .int .i64 1200, .string (tx [])] 26))
  have HB1 := Aside0.mk (hb1.alloc hb1.size (.cells #[.int .i64 1, .int .i64 5, .int .i64 1, .int .i64 0, .int .i64 2, .int .i64 1200, .string (tx [])] 26))
  have k1 := blk_new w1 (.cells (stC 1 5 1 0 2 1200 []) 26)
  clear hb1
  go_wp2_with fail
  refine (HL.out _ hT1).mono ?_
  rintro e w2 ⟨rfl, hb2⟩
  have K1 := (hb2.block _ (blk_ltI k1)).trans k1
  have HB2 := Aside0.mk (HB1.out.trans (hb2.mono HB1.out.size))
  clear hb2 k1 hT1
  obtain ⟨g1, hg1⟩ : ∃ g, g = w1.heap.size := ⟨_, rfl⟩
  rw [← hg1] at K1
  rw [← hg1]
  clear hg1
  go_wp2_with fail
  refine (HP3.out _).mono ?_
  rintro e w3 ⟨rfl, hb3⟩
  have K13 := (hb3.block _ (blk_ltI K1)).trans K1
  have HB3 := Aside0.mk (HB2.out.trans (hb3.mono HB2.out.size))
  have XB := Aside0.mk (HB3.out.alloc HB3.out.size (.cells #[.int .i64 0, .int .i64 0, .int .i64 0, .int .i64 0, .int .i64 0, .int .i64 0, .string (tx [])] 26))
  have K14 := (Below.heap_alloc w3 (.cells #[.int .i64 0, .int .i64 0, .int .i64 0, .int .i64 0, .int .i64 0, .int .i64 0, .string (tx [])] 26) g1 (blk_ltI K13)).trans K13
  obtain ⟨⟨c0, c1, c2, c3, c4, c5, c6⟩, _⟩ := stcells K14
  clear hb3 K1 K13 K14
  go_wp2_with fail
  go_ret
  exact ⟨rfl, XB.out⟩
set_option maxHeartbeats 4000000 in
set_option maxRecDepth 100000 in
theorem parses_any (s : ByteArray) (w : World) (hT : Tab w) : Calls Tryd.prog 3 #[.string s] w fun e w' => e = .returned (.bool true) ∧ Below w.heap.size w w' := by
  go_enter Tryd.func3, Tryd.ntmps3
  by_cases hs : 40000 < s.size
  · have p1 : decide (40000 < (s.size : Int)) = true := decide_eq_true (by omega)
    go_wp2_with fail
    refine (wakes_true _ hT).mono ?_
    rintro e w1 ⟨rfl, hb1⟩
    go_wp2_with fail
    go_ret
    exact ⟨rfl, hb1⟩
  have p1 : decide (40000 < (s.size : Int)) = false := decide_eq_false (by omega)
  obtain ⟨st, n, hV⟩ : ∃ st n, parV s.data.toList = .tuple #[stV st, .int .i64 n] := by
    unfold parV
    cases parseL s.data.toList with
    | none => exact ⟨stZ, 320, rfl⟩
    | some st => exact ⟨st, 0, rfl⟩
  have HP := Aside0.mk (fun w => parse_any s w (by omega))
  have HR := Aside0.mk (fun w => rparse_any s w (by omega))
  unfold ParPost at HP HR
  rw [hV] at HP HR
  clear hV hs
  obtain ⟨a0, a1, a2, a3, a4, a5, a6⟩ := st
  have HS := Aside0.mk (fun w => same_any ⟨a0, a1, a2, a3, a4, a5, a6⟩ ⟨a0, a1, a2, a3, a4, a5, a6⟩ w)
  rw [sameB_true] at HS
  unfold stV stC at HP HR HS
  dsimp only at HP HR HS
  go_wp2_with fail
  refine (HP.out _).mono ?_
  rintro e w1 ⟨rfl, hb1⟩
  have hB1 := hb1.alloc hb1.size (.cells #[.int .i64 a0, .int .i64 a1, .int .i64 a2, .int .i64 a3, .int .i64 a4, .int .i64 a5, .string (tx a6)] 26)
  have HB1 := Aside0.mk hB1
  have k1 := blk_new w1 (.cells (stC a0 a1 a2 a3 a4 a5 a6) 26)
  clear hb1 hB1
  go_wp2_with fail
  refine (HR.out _).mono ?_
  rintro e w2 ⟨rfl, hb2⟩
  have K1 := (hb2.block _ (blk_ltI k1)).trans k1
  have HB2 := Aside0.mk (HB1.out.trans (hb2.mono HB1.out.size))
  clear hb2 k1
  obtain ⟨g1, hg1⟩ : ∃ g, g = w1.heap.size := ⟨_, rfl⟩
  rw [← hg1] at K1
  rw [← hg1]
  clear hg1
  have XB := Aside0.mk (HB2.out.alloc HB2.out.size (.cells #[.int .i64 a0, .int .i64 a1, .int .i64 a2, .int .i64 a3, .int .i64 a4, .int .i64 a5, .string (tx a6)] 26))
  have K14 := (Below.heap_alloc w2 (.cells #[.int .i64 a0, .int .i64 a1, .int .i64 a2, .int .i64 a3, .int .i64 a4, .int .i64 a5, .string (tx a6)] 26) g1 (blk_ltI K1)).trans K1
  obtain ⟨⟨c0, c1, c2, c3, c4, c5, c6⟩, _⟩ := stcells K14
  clear K1 K14
  go_wp2_with fail
  refine (HS.out _).mono ?_
  rintro e w3 ⟨rfl, hb3⟩
  have HB3 := Aside0.mk (XB.out.trans (hb3.mono XB.out.size))
  have hT3 := hT.below HB3.out
  clear hb3 c0 c1 c2 c3 c4 c5 c6
  go_wp2_with fail
  refine (wakes_true _ hT3).mono ?_
  rintro e w4 ⟨rfl, hb4⟩
  have HB4 := Aside0.mk (HB3.out.trans (hb4.mono HB3.out.size))
  clear hb4
  go_wp2_with fail
  go_ret
  exact ⟨rfl, HB4.out⟩
end Go.Proofs.YtkjjjgplidompaaDoor.B
