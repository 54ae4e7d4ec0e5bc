/-
  The second controller: the law of the bounds. Walk over the program.
-/
import Derived.Test.YtbdnbndmiekejaaDoorVe
namespace Go.Proofs.YtbdnbndmiekejaaDoor.B
open Go.RowKit Go.Proofs.YtbdnbndmiekejaaDoorW.PrintWords Go.Proofs.YtbdnbndmiekejaaDoorW.PrintLast Go.Proofs.YtbdnbndmiekejaaDoorW.PrintMore
set_option linter.unusedVariables false
set_option linter.unusedSimpArgs false
theorem rates_any (start lo hi : Int) (w : World) : Calls Tryd.prog 14 #[.int .i64 start, .int .i64 lo, .int .i64 hi] w fun e w' => e = .returned (.bool (goodNd start lo hi)) ∧ w' = w := by
  obtain ⟨G, hG⟩ : ∃ G, G = goodNd start lo hi := ⟨_, rfl⟩
  rw [← hG]
  have HG := Aside0.mk hG
  clear hG
  go_enter Tryd.func14, Tryd.ntmps14
  go_wp2
  all_goals go_ret
  all_goals exact ⟨ret_bool (by rw [HG.out, Bool.eq_iff_iff]; simp [goodNd]; omega), rfl⟩
theorem add_field6 (ad : Addr) (m j : Nat) (h : j ≠ 0) : ad.add (m + j) = ⟨(ad.add m).block, (ad.add m).off + j, none⟩ := by
  unfold Addr.add
  rw [if_neg (by omega)]
  split <;> simp <;> omega
/-- A step, as it lies in memory. -/
def StepAt (w : World) (ad : Addr) (i : Nat) (c0 c1 : Int) (c2 : Bool) (c3 c4 c5 : Int) : Prop :=
  w.cell? (ad.add (i * 6)) = some (.int .i64 c0) ∧ w.cell? ⟨(ad.add (i * 6)).block, (ad.add (i * 6)).off + 1, none⟩ = some (.int .i64 c1) ∧ w.cell? ⟨(ad.add (i * 6)).block, (ad.add (i * 6)).off + 2, none⟩ = some (.bool c2) ∧ w.cell? ⟨(ad.add (i * 6)).block, (ad.add (i * 6)).off + 3, none⟩ = some (.int .i64 c3) ∧
    w.cell? ⟨(ad.add (i * 6)).block, (ad.add (i * 6)).off + 4, none⟩ = some (.int .i64 c4) ∧ w.cell? ⟨(ad.add (i * 6)).block, (ad.add (i * 6)).off + 5, none⟩ = some (.int .i64 c5)
def StepsAt (w : World) (A : Option Addr) (n : Nat) : Prop := ∀ i, i < n → ∃ (ad : Addr) (c0 : Int) (c1 : Int) (c2 : Bool) (c3 : Int) (c4 : Int) (c5 : Int), A = some ad ∧ StepAt w ad i c0 c1 c2 c3 c4 c5
theorem stepsAt_of {w : World} {A : Option Addr} {n : Nat} (h : ∀ i, i < n → ∃ (ad : Addr) (c0 : Int) (c1 : Int) (c2 : Bool) (c3 : Int) (c4 : Int) (c5 : Int), A = some ad ∧ w.cell? (ad.add (i * 6 + 0)) = some (.int .i64 c0) ∧ I64 c0 ∧ w.cell? (ad.add (i * 6 + 1)) = some (.int .i64 c1) ∧ I64 c1 ∧ w.cell? (ad.add (i * 6 + 2)) = some (.bool c2) ∧ w.cell? (ad.add (i * 6 + 3)) = some (.int .i64 c3) ∧ I64 c3 ∧ w.cell? (ad.add (i * 6 + 4)) = some (.int .i64 c4) ∧ I64 c4 ∧ w.cell? (ad.add (i * 6 + 5)) = some (.int .i64 c5) ∧ I64 c5) : StepsAt w A n := by
  intro i hi
  obtain ⟨ad, c0, c1, c2, c3, c4, c5, e, g0, _, g1, _, g2, g3, _, g4, _, g5, _⟩ := h i hi
  refine ⟨ad, c0, c1, c2, c3, c4, c5, e, g0, ?_, ?_, ?_, ?_, ?_⟩
  · rw [← add_field6 _ _ 1 (by omega)]; exact g1
  · rw [← add_field6 _ _ 2 (by omega)]; exact g2
  · rw [← add_field6 _ _ 3 (by omega)]; exact g3
  · rw [← add_field6 _ _ 4 (by omega)]; exact g4
  · rw [← add_field6 _ _ 5 (by omega)]; exact g5
theorem cl_above {a lo hi r : Int} (h1 : lo ≤ r) (h2 : r ≤ hi) (h3 : r ≤ a) : r ≤ cl a lo hi := by
  unfold cl
  split
  · omega
  · split <;> omega
def BRel (wa : World) (lo hi : Int) (n g : Nat) (v : Value) (wr : World) : Prop := ∃ (k : Nat) (s : Nd), v = .int .i64 k ∧ k ≤ n ∧ s.lo = lo ∧ s.hi = hi ∧ Aside0 (NdRun wa wr g s) ∧ Aside0 (NdOk s)
set_option maxHeartbeats 4000000 in
set_option maxRecDepth 100000 in
theorem bounds_good (start lo hi : Int) (A : Option Addr) (n c : Nat) (w : World) (hT : Tabs w) (hgood : goodNd start lo hi = true) (hl : StepsAt w A n) :
    Calls Tryd.prog 5 #[.agg #[.int .i64 start, .int .i64 lo, .int .i64 hi], .slice A n c] w fun e w' => e = .returned (.bool true) ∧ Below w.heap.size w w' := by
  have HL := Aside0.mk hl
  have HG := Aside0.mk hgood
  have HT := Aside0.mk hT
  clear hl hgood hT
  go_enter Tryd.func5, Tryd.ntmps5
  go_wp2_with fail
  have hB0 := Aside0.mk ((Below.refl w.heap.size w).alloc (Nat.le_refl _) (.cells #[.int .i64 start, .int .i64 lo, .int .i64 hi] 28))
  have E0 := Aside0.mk (blk_new w (.cells #[.int .i64 start, .int .i64 lo, .int .i64 hi] 28))
  obtain ⟨lb, hlb⟩ : ∃ b, b = w.heap.size := ⟨_, rfl⟩
  have TA := Aside0.mk (HT.out.below ((Below.refl w.heap.size w).alloc (Nat.le_refl _) (.cells #[.int .i64 start, .int .i64 lo, .int .i64 hi] 28)))
  rw [← hlb] at E0
  have HLB := Aside0.mk hlb
  refine (ndnew_run start lo hi HG.out TA.out (Below.refl _ _)).mono ?_
  rintro e w1 ⟨g, rfl, h1⟩
  rw [← hlb]
  clear hlb
  generalize w.alloc (.cells #[.int .i64 start, .int .i64 lo, .int .i64 hi] 28) = wa at *
  have H1 := Aside0.mk h1
  clear h1
  go_wp2_with fail
  go_loopw [7] (fun v wr => BRel wa lo hi n g v wr) (fun v _ => n - (intOf v).toNat)
  case atStart => exact ⟨0, _, rfl, by omega, rfl, rfl, H1, ⟨made_okNd _ _ _ HG.out⟩⟩
  case round =>
    obtain ⟨k, s, rfl, hk, hlo, hhi, hS, hI⟩ := hrel
    have HLO := Aside0.mk hlo
    have HHI := Aside0.mk hhi
    clear hlo hhi
    by_cases hkn : k < n
    · by_cases hk2 : k < 200
      · obtain ⟨ad, c0, c1, c2, c3, c4, c5, rfl, hst⟩ := HL.out k hkn
        have hadb : (ad.add (k * 6)).block < w.heap.size := World.block_lt_of_cell? w _ hst.1
        have hBw : Below w.heap.size w wr := hB0.out.trans (hS.out.b.mono hB0.out.size)
        have hcell : ∀ (p : Addr) (v : Value), p.block < w.heap.size → w.cell? p = some v → wr.cell? p = some v := by
          intro p v hp hc
          rw [World.cell?_of_block (w := w) (hBw.block _ hp)]
          exact hc
        obtain ⟨g0, g1, g2, g3, g4, g5⟩ := hst
        have t0 := hcell _ _ hadb g0
        have t1 := hcell ⟨(ad.add (k * 6)).block, (ad.add (k * 6)).off + 1, none⟩ _ hadb g1
        have t2 := hcell ⟨(ad.add (k * 6)).block, (ad.add (k * 6)).off + 2, none⟩ _ hadb g2
        have t3 := hcell ⟨(ad.add (k * 6)).block, (ad.add (k * 6)).off + 3, none⟩ _ hadb g3
        have t4 := hcell ⟨(ad.add (k * 6)).block, (ad.add (k * 6)).off + 4, none⟩ _ hadb g4
        have t5 := hcell ⟨(ad.add (k * 6)).block, (ad.add (k * 6)).off + 5, none⟩ _ hadb g5
        have q1 : decide ((k : Int) < (n : Int)) = true := by simp; omega
        have q2 : decide ((k : Int) < 200) = true := by simp; omega
        clear g0 g1 g2 g3 g4 g5 hcell hBw
        go_wp2_with fail
        have S2 := Aside0.mk (hS.out.below ((Below.refl _ _).alloc (Nat.le_refl _) (.cells #[.int .i64 c0, .int .i64 c1, .bool c2, .int .i64 c3, .int .i64 c4, .int .i64 c5] 39)))
        refine (ndrate_any g s _ S2.out.1).mono ?_
        rintro e w3 ⟨rfl, rfl⟩
        have hE := blk_new wr (.cells #[.int .i64 c0, .int .i64 c1, .bool c2, .int .i64 c3, .int .i64 c4, .int .i64 c5] 39)
        have e0 := blk_cell hE 0
        have e1 := blk_cell hE 1
        have e2 := blk_cell hE 2
        have e3 := blk_cell hE 3
        have e4 := blk_cell hE 4
        have e5 := blk_cell hE 5
        simp only [List.getElem?_toArray, List.getElem?_cons_zero, List.getElem?_cons_succ] at e0 e1 e2 e3 e4 e5
        clear t0 t1 t2 t3 t4 t5 hE
        go_wp2_with fail
        refine (update_run c0 c1 c3 c4 c5 c2 S2.out hI.out).mono ?_
        rintro e w4 ⟨s4, rfl, h4, hn⟩
        have H4 := Aside0.mk h4
        have HN := Aside0.mk hn
        have X4 := (H4.out.b.block lb (by have := blk_lt E0.out; exact this)).trans E0.out
        have x1 := blk_cell X4 1
        have x2 := blk_cell X4 2
        simp only [List.getElem?_toArray, List.getElem?_cons_zero, List.getElem?_cons_succ] at x1 x2
        have y1 : lo ≤ s4.rate := by have := hn.ok.r0; have := hn.lo; have := HLO.out; omega
        have y2 : s4.rate ≤ hi := by have := hn.ok.r1; have := hn.hi; have := HHI.out; omega
        obtain ⟨r4, hr4⟩ : ∃ r, r = s4.rate := ⟨_, rfl⟩
        obtain ⟨was, hwas⟩ : ∃ r, r = s.rate := ⟨_, rfl⟩
        obtain ⟨rb, hrb⟩ : ∃ b, b = s4.ramps := ⟨_, rfl⟩
        have HRB := Aside0.mk hrb
        have d1 : decide (r4 < lo) = false := by simp; omega
        have d2 : decide (hi < r4) = false := by simp; omega
        have d3 : rb = true → decide (r4 < was) = false := by
          intro hb
          have hr := hn.ramp (by rw [← hn.ramps, ← hrb]; exact hb)
          have ha := ramp_ge s.rate (cl c3 0 17179869184) (cl c4 1000 1000000) (by have := hI.out.lo1; have := hI.out.r0; omega) (by have := hI.out.r1; have := hI.out.hi1; omega)
          have hc : s.rate ≤ s4.rate := by
            rw [hr]
            exact cl_above hI.out.r0 hI.out.r1 ha
          simp
          omega
        rw [← hr4, ← hwas]
        clear h4 hn X4 hr4 hwas e0 e1 e2 e3 e4 e5 y1 y2 hrb
        have D3 := Aside0.mk d3
        clear d3
        go_wp2_with fail
        refine (ndramps_any g s4 _ H4.out.1).mono ?_
        rintro e w5 ⟨rfl, rfl⟩
        rw [← HRB.out]
        cases rb with
        | true =>
          have d3 := D3.out rfl
          go_wp2_with fail
          exact ⟨⟨k + 1, s4, by simp, by omega, HN.out.lo.trans HLO.out, HN.out.hi.trans HHI.out, H4, ⟨HN.out.ok⟩⟩, by simp [intOf]; omega⟩
        | false =>
          go_wp2_with fail
          exact ⟨⟨k + 1, s4, by simp, by omega, HN.out.lo.trans HLO.out, HN.out.hi.trans HHI.out, H4, ⟨HN.out.ok⟩⟩, by simp [intOf]; omega⟩
      · have q1 : decide ((k : Int) < (n : Int)) = true := by simp; omega
        have q2 : decide ((k : Int) < 200) = false := by simp; omega
        go_wp2_with fail
        refine (wakes_any _ hS.out.tabs).mono ?_
        rintro e w5 ⟨rfl, hb⟩
        go_wp2_with fail
        go_ret
        have hBw : Below w.heap.size w wr := hB0.out.trans (hS.out.b.mono hB0.out.size)
        exact ⟨rfl, hBw.trans (hb.mono hBw.size)⟩
    · have q1 : decide ((k : Int) < (n : Int)) = false := by simp; omega
      go_wp2_with fail
      refine (wakes_any _ hS.out.tabs).mono ?_
      rintro e w5 ⟨rfl, hb⟩
      go_wp2_with fail
      go_ret
      have hBw : Below w.heap.size w wr := hB0.out.trans (hS.out.b.mono hB0.out.size)
      exact ⟨rfl, hBw.trans (hb.mono hBw.size)⟩
theorem bounds_bad (start lo hi : Int) (A : Option Addr) (n c : Nat) (w : World) (hT : Tabs w) (hbad : goodNd start lo hi = false) :
    Calls Tryd.prog 5 #[.agg #[.int .i64 start, .int .i64 lo, .int .i64 hi], .slice A n c] w fun e w' => e = .returned (.bool true) ∧ Below w.heap.size w w' := by
  have HG := Aside0.mk hbad
  have HT := Aside0.mk hT
  clear hbad hT
  go_enter Tryd.func5, Tryd.ntmps5
  go_wp2_with fail
  refine (ndnew_bad start lo hi _ HG.out).mono ?_
  rintro e w1 ⟨rfl, rfl⟩
  go_wp2_with fail
  refine (rates_any start lo hi _).mono ?_
  rintro e w1 ⟨rfl, rfl⟩
  rw [HG.out]
  go_wp2_with fail
  refine (wakes_any _ (HT.out.below ((Below.refl _ _).alloc (Nat.le_refl _) _))).mono ?_
  rintro e w5 ⟨rfl, hB5⟩
  go_wp2_with fail
  go_ret
  exact ⟨rfl, ((Below.refl _ _).alloc (Nat.le_refl _) _).trans (hB5.mono (by simp))⟩
theorem bounds_true (start lo hi : Int) (A : Option Addr) (n c : Nat) (w : World) (hT : Tabs w) (_ : I64 start) (_ : I64 lo) (_ : I64 hi) (h1 : n ≤ c) (h2 : c ≤ maxLen) (hl : ∀ i, i < n → ∃ (ad : Addr) (c0 : Int) (c1 : Int) (c2 : Bool) (c3 : Int) (c4 : Int) (c5 : Int), A = some ad ∧ w.cell? (ad.add (i * 6 + 0)) = some (.int .i64 c0) ∧ I64 c0 ∧ w.cell? (ad.add (i * 6 + 1)) = some (.int .i64 c1) ∧ I64 c1 ∧ w.cell? (ad.add (i * 6 + 2)) = some (.bool c2) ∧ w.cell? (ad.add (i * 6 + 3)) = some (.int .i64 c3) ∧ I64 c3 ∧ w.cell? (ad.add (i * 6 + 4)) = some (.int .i64 c4) ∧ I64 c4 ∧ w.cell? (ad.add (i * 6 + 5)) = some (.int .i64 c5) ∧ I64 c5) :
    Calls Tryd.prog 5 #[.agg #[.int .i64 start, .int .i64 lo, .int .i64 hi], .slice A n c] w fun e w' => e = .returned (.bool true) ∧ Below w.heap.size w w' := by
  cases hg : goodNd start lo hi
  · exact bounds_bad start lo hi A n c w hT hg
  · exact bounds_good start lo hi A n c w hT hg (stepsAt_of hl)
end Go.Proofs.YtbdnbndmiekejaaDoor.B
