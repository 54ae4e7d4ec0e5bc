/-
  The third controller's bounds, whatever is told: the law, walked.
-/
import Derived.Test.YthlgndgacmalaaaSk
import Derived.Test.YthlgndgacmalaaaRw
namespace Go.Proofs.Ythlgndgacmalaaa.B
open Go.RowKit Go.Proofs.YthlgndgacmalaaaW.PrintWords Go.Proofs.YthlgndgacmalaaaW.PrintLast Go.Proofs.YthlgndgacmalaaaW.PrintMore
set_option linter.unusedVariables false
set_option linter.unusedSimpArgs false
theorem rates_any (start lo hi : Int) (w : World) : Calls Try.prog 13 #[.int .i64 start, .int .i64 lo, .int .i64 hi] w fun e w' => e = .returned (.bool (goodSc start lo hi)) ∧ w' = w := by
  obtain ⟨G, hG⟩ : ∃ G, G = goodSc start lo hi := ⟨_, rfl⟩
  rw [← hG]
  have HG := Aside0.mk hG
  clear hG
  go_enter Try.func13, Try.ntmps13
  go_wp2
  all_goals go_ret
  all_goals exact ⟨ret_bool (by rw [HG.out, Bool.eq_iff_iff]; simp [goodSc]; omega), rfl⟩
/-- A step, as it lies in memory. -/
def StepAt (w : World) (ad : Addr) (i : Nat) (c0 c1 c2 : Int) (c3 c4 : Bool) (c5 c6 : Int) : Prop :=
  w.cell? (ad.add (i * 7)) = some (.int .i64 c0) ∧ w.cell? ⟨(ad.add (i * 7)).block, (ad.add (i * 7)).off + 1, none⟩ = some (.int .i64 c1) ∧ w.cell? ⟨(ad.add (i * 7)).block, (ad.add (i * 7)).off + 2, none⟩ = some (.int .i64 c2) ∧ w.cell? ⟨(ad.add (i * 7)).block, (ad.add (i * 7)).off + 3, none⟩ = some (.bool c3) ∧
    w.cell? ⟨(ad.add (i * 7)).block, (ad.add (i * 7)).off + 4, none⟩ = some (.bool c4) ∧ w.cell? ⟨(ad.add (i * 7)).block, (ad.add (i * 7)).off + 5, none⟩ = some (.int .i64 c5) ∧ w.cell? ⟨(ad.add (i * 7)).block, (ad.add (i * 7)).off + 6, none⟩ = some (.int .i64 c6)
/-- Steps, as what comes in is read. -/
def StepsAt (w : World) (A : Option Addr) (n : Nat) : Prop := ∀ i, i < n → ∃ (ad : Addr) (c0 : Int) (c1 : Int) (c2 : Int) (c3 : Bool) (c4 : Bool) (c5 : Int) (c6 : Int), A = some ad ∧ StepAt w ad i c0 c1 c2 c3 c4 c5 c6
theorem stepsAt_of {w : World} {A : Option Addr} {n : Nat} (h : ∀ i, i < n → ∃ (ad : Addr) (c0 : Int) (c1 : Int) (c2 : Int) (c3 : Bool) (c4 : Bool) (c5 : Int) (c6 : Int), A = some ad ∧ w.cell? (ad.add (i * 7 + 0)) = some (.int .i64 c0) ∧ I64 c0 ∧ w.cell? (ad.add (i * 7 + 1)) = some (.int .i64 c1) ∧ I64 c1 ∧ w.cell? (ad.add (i * 7 + 2)) = some (.int .i64 c2) ∧ I64 c2 ∧ w.cell? (ad.add (i * 7 + 3)) = some (.bool c3) ∧ w.cell? (ad.add (i * 7 + 4)) = some (.bool c4) ∧ w.cell? (ad.add (i * 7 + 5)) = some (.int .i64 c5) ∧ I64 c5 ∧ w.cell? (ad.add (i * 7 + 6)) = some (.int .i64 c6) ∧ I64 c6) : StepsAt w A n := by
  intro i hi
  obtain ⟨ad, c0, c1, c2, c3, c4, c5, c6, e, g0, _, g1, _, g2, _, g3, g4, g5, _, g6, _⟩ := h i hi
  refine ⟨ad, c0, c1, c2, c3, c4, c5, c6, e, g0, ?_, ?_, ?_, ?_, ?_, ?_⟩
  · rw [← add_field _ _ 1 (by omega)]; exact g1
  · rw [← add_field _ _ 2 (by omega)]; exact g2
  · rw [← add_field _ _ 3 (by omega)]; exact g3
  · rw [← add_field _ _ 4 (by omega)]; exact g4
  · rw [← add_field _ _ 5 (by omega)]; exact g5
  · rw [← add_field _ _ 6 (by omega)]; exact g6
def BRel (lo hi : Int) (n g : Nat) (w2 : World) (v : Value) (wr : World) : Prop :=
  ∃ (k : Nat) (s : Sc), v = .int .i64 k ∧ k ≤ n ∧ Aside0 (ScIs wr g s) ∧ Aside0 (BInv lo hi s) ∧ Aside0 (Touch (fun i => i = g) w2 wr)
set_option maxHeartbeats 4000000 in
set_option maxRecDepth 100000 in
theorem bounds_good (start lo hi : Int) (A : Option Addr) (n c : Nat) (w : World) (hgood : goodSc start lo hi = true) (hn : n ≤ 9223372036854775807)
    (hl : StepsAt w A n) :
    Calls Try.prog 5 #[.agg #[.int .i64 start, .int .i64 lo, .int .i64 hi], .slice A n c] w fun e w' => e = .returned (.bool true) ∧ Below w.heap.size w w' := by
  have HL := Aside0.mk hl
  have HG := Aside0.mk hgood
  have h := hgood
  simp only [goodSc, decide_eq_true_eq] at h
  obtain ⟨h1, h2, h3, h4⟩ := h
  have hlh : lo ≤ hi := by omega
  clear hl hgood h2 h3
  go_enter Try.func5, Try.ntmps5
  go_wp2_with fail
  refine (scnew_good start lo hi _ HG.out).mono ?_
  rintro e w1 ⟨g, rfl, hg, hS, hB⟩
  have hB0 := hB.size
  simp at hB0 hg
  have hX : w1.heap[w.heap.size]? = some (.cells #[.int .i64 start, .int .i64 lo, .int .i64 hi] 23 (0, 0)) := (hB.block _ (by simp)).trans (blk_new _ _)
  have HX := Aside0.mk hX
  have HS := Aside0.mk hS
  have HB := Aside0.mk hB
  clear hX hS hB
  go_wp2_with fail
  go_loopw [7] (fun v wr => BRel lo hi n g w1 v wr) (fun v _ => n - (intOf v).toNat)
  case atStart => exact ⟨0, _, rfl, by omega, HS, ⟨BInv.made HG.out⟩, ⟨Touch.refl _ _⟩⟩
  case round =>
    obtain ⟨k, s, rfl, hk, hS, hI, hT⟩ := hrel
    by_cases hlt : k < n ∧ k < 200
    · obtain ⟨hkn, hk2⟩ := hlt
      obtain ⟨ad, c0, c1, c2, c3, c4, c5, c6, rfl, hst⟩ := HL.out k hkn
      have hadb : (ad.add (k * 7)).block < w.heap.size := World.block_lt_of_cell? w _ hst.1
      have hcell : ∀ (p : Addr) (v : Value), p.block < w.heap.size → w.cell? p = some v → wr.cell? p = some v := by
        intro p v hp hc
        have e1 : wr.heap[p.block]? = w1.heap[p.block]? := hT.out.block _ (by omega) (by omega)
        have e2 : w1.heap[p.block]? = w.heap[p.block]? := (HB.out.block _ (by simp; omega)).trans (Below.heap_alloc _ _ _ hp)
        rw [World.cell?_of_block (w := w) (e1.trans e2)]
        exact hc
      obtain ⟨g0, g1, g2, g3, g4, g5, g6⟩ := hst
      have t0 := hcell _ _ hadb g0
      have t1 := hcell ⟨(ad.add (k * 7)).block, (ad.add (k * 7)).off + 1, none⟩ _ hadb g1
      have t2 := hcell ⟨(ad.add (k * 7)).block, (ad.add (k * 7)).off + 2, none⟩ _ hadb g2
      have t3 := hcell ⟨(ad.add (k * 7)).block, (ad.add (k * 7)).off + 3, none⟩ _ hadb g3
      have t4 := hcell ⟨(ad.add (k * 7)).block, (ad.add (k * 7)).off + 4, none⟩ _ hadb g4
      have t5 := hcell ⟨(ad.add (k * 7)).block, (ad.add (k * 7)).off + 5, none⟩ _ hadb g5
      have t6 := hcell ⟨(ad.add (k * 7)).block, (ad.add (k * 7)).off + 6, none⟩ _ hadb g6
      clear g0 g1 g2 g3 g4 g5 g6 hcell
      have hgwr : g < wr.heap.size := blk_lt hS.out
      have hSa : ScIs (wr.alloc (.cells #[.int .i64 c0, .int .i64 c1, .int .i64 c2, .bool c3, .bool c4, .int .i64 c5, .int .i64 c6] 32)) g s := (Below.heap_alloc wr _ g hgwr).trans hS.out
      have HSa := Aside0.mk hSa
      clear hSa
      go_wp2_with fail
      refine (age_any g s c1 _ HSa.out).mono ?_
      rintro e w3 ⟨rfl, hS3, hT3⟩
      have hE := hT3.kept (blk_new wr _) (by show ¬ wr.heap.size = g; omega)
      have e0 := blk_cell hE 0
      have e1 := blk_cell hE 1
      have e2 := blk_cell hE 2
      have e3 := blk_cell hE 3
      have e4 := blk_cell hE 4
      have e5 := blk_cell hE 5
      have e6 := blk_cell hE 6
      simp only [List.getElem?_toArray, List.getElem?_cons_zero, List.getElem?_cons_succ] at e0 e1 e2 e3 e4 e5 e6
      have HS3 := Aside0.mk hS3
      clear t0 t1 t2 t3 t4 t5 t6 hS3 hE
      go_wp2_with fail
      refine (hear_any g _ c1 c2 c5 c6 c3 c4 _ HS3.out (hI.out.age _).ok).mono ?_
      rintro e w4 ⟨rfl, hS4, hT4⟩
      obtain ⟨hI4, hr0, hr1⟩ := (hI.out.age (decide (60000 < c1))).hear hlh h1 h4 c1 c2 c3 c4 c5 c6
      obtain ⟨F, hF⟩ : ∃ F, F = Sc.hear { s with old := decide (60000 < c1) } c1 c2 c3 c4 c5 c6 := ⟨_, rfl⟩
      rw [← hF] at hS4 hI4 hr0 hr1 ⊢
      obtain ⟨s4, r4⟩ := F
      dsimp only at hS4 hI4 hr0 hr1 ⊢
      have hT14 : Touch (fun i => i = g) w1 w4 := ((hT.out.alloc _).trans hT3 (fun i hi => .inl hi)).trans hT4 (fun i hi => .inl hi)
      have hX4 := hT14.kept HX.out (by show ¬ w.heap.size = g; omega)
      have x1 := blk_cell hX4 1
      have x2 := blk_cell hX4 2
      simp only [List.getElem?_toArray, List.getElem?_cons_zero, List.getElem?_cons_succ] at x1 x2
      have HS4 := Aside0.mk hS4
      have HI4 := Aside0.mk hI4
      have y0 := hI4.w0
      have y1 := hI4.w1
      clear e0 e1 e2 e3 e4 e5 e6 hF hX4 hS4 hI4
      have d0 : decide (r4 < lo) = false := by simp; omega
      have d1 : decide (hi < r4) = false := by simp; omega
      have d2 : decide (s4.win < 3000) = false := by simp; omega
      have d3 : decide (2147486648 < s4.win) = false := by simp; omega
      go_wp2_with fail
      refine (window_any g s4 _ HS4.out).mono ?_
      rintro e w5 ⟨rfl, rfl⟩
      go_wp2_with fail
      refine (window_any g s4 _ HS4.out).mono ?_
      rintro e w5 ⟨rfl, rfl⟩
      go_wp2_with fail
      go_roundw
      case rel => exact ⟨k + 1, s4, by go_num, by omega, HS4, HI4, ⟨hT14⟩⟩
      case measure => simp [intOf]; omega
    · by_cases hkn : k < n
      · have hk2 : ¬ k < 200 := fun hh => hlt ⟨hkn, hh⟩
        clear hlt
        go_wp2_with fail
        refine (wakes_any _).mono ?_
        rintro e w5 ⟨rfl, hB5⟩
        go_wp2_with fail
        go_ret
        exact ⟨rfl, ((((Below.refl _ _).alloc (Nat.le_refl _) _).trans (HB.out.mono (by simp))).trans (hT.out.toBelow (by omega) (fun i hi => by omega))).trans (hB5.mono (by have := hT.out.size; omega))⟩
      · clear hlt
        go_wp2_with fail
        refine (wakes_any _).mono ?_
        rintro e w5 ⟨rfl, hB5⟩
        go_wp2_with fail
        go_ret
        exact ⟨rfl, ((((Below.refl _ _).alloc (Nat.le_refl _) _).trans (HB.out.mono (by simp))).trans (hT.out.toBelow (by omega) (fun i hi => by omega))).trans (hB5.mono (by have := hT.out.size; omega))⟩
set_option maxHeartbeats 1000000 in
set_option maxRecDepth 100000 in
theorem bounds_bad (start lo hi : Int) (A : Option Addr) (n c : Nat) (w : World) (hbad : goodSc start lo hi = false) :
    Calls Try.prog 5 #[.agg #[.int .i64 start, .int .i64 lo, .int .i64 hi], .slice A n c] w fun e w' => e = .returned (.bool true) ∧ Below w.heap.size w w' := by
  have HG := Aside0.mk hbad
  clear hbad
  go_enter Try.func5, Try.ntmps5
  go_wp2_with fail
  refine (scnew_bad start lo hi _ HG.out).mono ?_
  rintro e w1 ⟨rfl, rfl⟩
  go_wp2_with fail
  refine (rates_any start lo hi _).mono ?_
  rintro e w1 ⟨rfl, rfl⟩
  rw [HG.out]
  go_wp2_with fail
  refine (wakes_any _).mono ?_
  rintro e w5 ⟨rfl, hB5⟩
  go_wp2_with fail
  go_ret
  exact ⟨rfl, ((Below.refl _ _).alloc (Nat.le_refl _) _).trans (hB5.mono (by simp))⟩
theorem bounds_true (start lo hi : Int) (A : Option Addr) (n c : Nat) (w : World) (_ : I64 start) (_ : I64 lo) (_ : I64 hi) (h1 : n ≤ c) (h2 : c ≤ maxLen) (hl : ∀ i, i < n → ∃ (ad : Addr) (c0 : Int) (c1 : Int) (c2 : Int) (c3 : Bool) (c4 : Bool) (c5 : Int) (c6 : Int), A = some ad ∧ w.cell? (ad.add (i * 7 + 0)) = some (.int .i64 c0) ∧ I64 c0 ∧ w.cell? (ad.add (i * 7 + 1)) = some (.int .i64 c1) ∧ I64 c1 ∧ w.cell? (ad.add (i * 7 + 2)) = some (.int .i64 c2) ∧ I64 c2 ∧ w.cell? (ad.add (i * 7 + 3)) = some (.bool c3) ∧ w.cell? (ad.add (i * 7 + 4)) = some (.bool c4) ∧ w.cell? (ad.add (i * 7 + 5)) = some (.int .i64 c5) ∧ I64 c5 ∧ w.cell? (ad.add (i * 7 + 6)) = some (.int .i64 c6) ∧ I64 c6) :
    Calls Try.prog 5 #[.agg #[.int .i64 start, .int .i64 lo, .int .i64 hi], .slice A n c] w fun e w' => e = .returned (.bool true) ∧ Below w.heap.size w w' := by
  cases hg : goodSc start lo hi
  · exact bounds_bad start lo hi A n c w hg
  · exact bounds_good start lo hi A n c w hg (by unfold maxLen at h2; omega) (stepsAt_of hl)
end Go.Proofs.Ythlgndgacmalaaa.B
