/-
  The third controller is what the reference is: the law, walked.
-/
import Derived.Test.YthlgndgacmalaaaRt
import Derived.Test.YthlgndgacmalaaaSb
namespace Go.Proofs.Ythlgndgacmalaaa.B
open Go.RowKit Go.Proofs.YthlgndgacmalaaaW.PrintWords Go.Proofs.YthlgndgacmalaaaW.PrintLast Go.Proofs.YthlgndgacmalaaaW.PrintMore
set_option linter.unusedVariables false
set_option linter.unusedSimpArgs false
theorem rsc_cells {w : World} {g : Nat} {s : Sc} (h : RscIs w g s) : w.heap[g]? = some (.cells #[.int .i64 s.win, .int .i64 s.rate, .int .i64 s.lo, .int .i64 s.hi, .bool s.fast, .bool s.old, .bool s.cut, .int .i64 s.cutAt, .int .i64 s.was] 52 (0, 0)) := h
theorem rwindow_any (g : Nat) (s : Sc) (w : World) (hs : RscIs w g s) : Calls Try.prog 18 #[.pointer (some ⟨g, 0, none⟩)] w fun e w' => e = .returned (.int .i64 s.win) ∧ w' = w := by
  have h0 := blk_cell (rsc_cells hs) 0
  simp only [List.getElem?_toArray, List.getElem?_cons_zero, List.getElem?_cons_succ] at h0
  clear hs
  go_enter Try.func18, Try.ntmps18
  go_wp2
  go_ret
  exact ⟨rfl, rfl⟩
theorem rrate_any (g : Nat) (s : Sc) (w : World) (hs : RscIs w g s) : Calls Try.prog 20 #[.pointer (some ⟨g, 0, none⟩)] w fun e w' => e = .returned (.int .i64 s.rate) ∧ w' = w := by
  have h0 := blk_cell (rsc_cells hs) 1
  simp only [List.getElem?_toArray, List.getElem?_cons_zero, List.getElem?_cons_succ] at h0
  clear hs
  go_enter Try.func20, Try.ntmps20
  go_wp2
  go_ret
  exact ⟨rfl, rfl⟩
theorem rfast_any (g : Nat) (s : Sc) (w : World) (hs : RscIs w g s) : Calls Try.prog 21 #[.pointer (some ⟨g, 0, none⟩)] w fun e w' => e = .returned (.bool s.fast) ∧ w' = w := by
  have h0 := blk_cell (rsc_cells hs) 4
  simp only [List.getElem?_toArray, List.getElem?_cons_zero, List.getElem?_cons_succ] at h0
  clear hs
  go_enter Try.func21, Try.ntmps21
  go_wp2
  go_ret
  exact ⟨rfl, rfl⟩
theorem rage_any (g : Nat) (s : Sc) (a : Int) (w : World) (hs : RscIs w g s) : Calls Try.prog 16 #[.pointer (some ⟨g, 0, none⟩), .int .i64 a] w fun e w' => e = .returned (.tuple #[]) ∧ RscIs w' g { s with old := decide (60000 < a) } ∧ Touch (fun k => k = g) w w' := by
  have HS := Aside0.mk hs
  have h5 := blk_cell (rsc_cells hs) 5
  have f5 := blk_frozen (rsc_cells hs) 5
  simp only [List.getElem?_toArray, List.getElem?_cons_zero, List.getElem?_cons_succ] at h5
  clear hs
  go_enter Try.func16, Try.ntmps16
  go_wp2
  go_end0
  have HZ := blk_set (rsc_cells HS.out) 5 (.bool (decide (60000 < a)))
  simp only [List.setIfInBounds_toArray, List.set_cons_zero, List.set_cons_succ] at HZ
  exact ⟨rfl, HZ, (Touch.refl (fun k => k = g) w).setCell (p := ⟨g, 5, none⟩) (.inl rfl) _⟩
def RMadeSc (start lo hi : Int) (w : World) (e : Ending) (w' : World) : Prop :=
  ∃ g : Nat, e = .returned (.tuple #[.pointer (some ⟨g, 0, none⟩), .int .i64 0]) ∧ w.heap.size ≤ g ∧ RscIs w' g (Sc.made start lo hi) ∧ Below w.heap.size w w'
theorem rscnew_good (start lo hi : Int) (w : World) (h : goodSc start lo hi = true) : Calls Try.prog 15 #[.int .i64 start, .int .i64 lo, .int .i64 hi] w (RMadeSc start lo hi w) := by
  have h' := h
  simp only [goodSc, decide_eq_true_eq] at h'
  obtain ⟨h1, h2, h3, h4⟩ := h'
  have CG := Aside0.mk (fun w => rates_any start lo hi w)
  rw [h] at CG
  have CB := Aside0.mk (fun w => r4bytes_any start 100000 (i64_const (by omega) (by omega)) (i64_const (by omega) (by omega)) w)
  obtain ⟨W, hW⟩ : ∃ W, W = mdo start 100000 8000000 1 := ⟨_, rfl⟩
  rw [← hW] at CB
  obtain ⟨V, hV⟩ : ∃ V, V = (if W < 3000 then 3000 else W) := ⟨_, rfl⟩
  have HM : Aside0 (Sc.made start lo hi = ⟨start, lo, hi, V, true, false, 0, false, 0⟩) := ⟨by rw [hV, hW]; rfl⟩
  have HV := Aside0.mk hV
  clear h hW hV h1 h2 h3 h4
  go_enter Try.func15, Try.ntmps15
  go_wp2_with fail
  refine (CG.out _).mono ?_
  rintro e w1 ⟨rfl, hw⟩
  obtain rfl := hw.symm
  go_wp2_with fail
  refine (CB.out _).mono ?_
  rintro e w1 ⟨rfl, hB⟩
  have HB := Aside0.mk hB
  clear hB
  by_cases hq : W < 3000
  · have q : decide (W < 3000) = true := decide_eq_true hq
    have hv := HV.out
    rw [if_pos hq] at hv
    have HV2 := Aside0.mk hv
    clear hv
    go_wp2_with fail
    go_ret2
    refine ⟨w1.heap.size, rfl, HB.out.size, ?_, HB.out.alloc HB.out.size _⟩
    rw [HM.out, HV2.out]
    exact blk_new w1 _
  · have q : decide (W < 3000) = false := decide_eq_false hq
    have hv := HV.out
    rw [if_neg hq] at hv
    have HV2 := Aside0.mk hv
    clear hv
    go_wp2_with fail
    go_ret2
    refine ⟨w1.heap.size, rfl, HB.out.size, ?_, HB.out.alloc HB.out.size _⟩
    rw [HM.out, HV2.out]
    exact blk_new w1 _
theorem rscnew_bad (start lo hi : Int) (w : World) (h : goodSc start lo hi = false) : Calls Try.prog 15 #[.int .i64 start, .int .i64 lo, .int .i64 hi] w fun e w' => e = .returned (.tuple #[.pointer none, .int .i64 1]) ∧ w' = w := by
  have CG := Aside0.mk (fun w => rates_any start lo hi w)
  rw [h] at CG
  clear h
  go_enter Try.func15, Try.ntmps15
  go_wp2_with fail
  refine (CG.out _).mono ?_
  rintro e w1 ⟨rfl, hw⟩
  obtain rfl := hw.symm
  go_wp2_with fail
  go_ret2
  exact ⟨rfl, rfl⟩
/-- The two in step. -/
def PlIs (w2 w' : World) (g gq : Nat) (s : Sc) : Prop := ScIs w' g s ∧ RscIs w' gq s ∧ Touch (fun k => k = g ∨ k = gq) w2 w'
def PlRel (lo hi : Int) (n g gq : Nat) (w2 : World) (v : Value) (wr : World) : Prop :=
  ∃ (k : Nat) (s : Sc), v = .int .i64 k ∧ k ≤ n ∧ Aside0 (PlIs w2 wr g gq s) ∧ Aside0 (BInv lo hi s)
set_option maxHeartbeats 8000000 in
set_option maxRecDepth 100000 in
theorem plays_good (start lo hi : Int) (A : Option Addr) (n c : Nat) (w : World) (hgood : goodSc start lo hi = true) (hn : n ≤ 9223372036854775807) (hl : StepsAt w A n) :
    Calls Try.prog 6 #[.agg #[.int .i64 start, .int .i64 lo, .int .i64 hi], .slice A n c] w fun e w' => e = .returned (.bool true) ∧ Below w.heap.size w w' := by
  have HL := Aside0.mk hl
  have HG := Aside0.mk hgood
  have h := hgood
  simp only [goodSc, decide_eq_true_eq] at h
  obtain ⟨h1, h2, h3, h4⟩ := h
  have hlh : lo ≤ hi := by omega
  clear hl hgood h2 h3
  go_enter Try.func6, Try.ntmps6
  go_wp2_with fail
  refine (scnew_good start lo hi _ HG.out).mono ?_
  rintro e w1 ⟨g, rfl, hg, hS, hB⟩
  have hB0 := hB.size
  simp at hB0 hg
  have hX : w1.heap[w.heap.size]? = some (.cells #[.int .i64 start, .int .i64 lo, .int .i64 hi] 23 (0, 0)) := (hB.block _ (by simp)).trans (blk_new _ _)
  have y0 := blk_cell hX 0
  have y1 := blk_cell hX 1
  have y2 := blk_cell hX 2
  simp only [List.getElem?_toArray, List.getElem?_cons_zero, List.getElem?_cons_succ] at y0 y1 y2
  have HS := Aside0.mk hS
  have HB := Aside0.mk hB
  clear hX hS hB
  go_wp2_with fail
  refine (rscnew_good start lo hi _ HG.out).mono ?_
  rintro e w2 ⟨gq, rfl, hgq, hQ, hB2⟩
  have hgw := blk_lt HS.out
  have hB02 := hB2.size
  have HS2 : Aside0 (ScIs w2 g (Sc.made start lo hi)) := ⟨(hB2.block g hgw).trans HS.out⟩
  have HQ2 := Aside0.mk hQ
  have HBB : Aside0 (Below w.heap.size w w2) := ⟨((Below.refl _ _).alloc (Nat.le_refl _) _).trans (HB.out.mono (by simp)) |>.trans (hB2.mono (by omega))⟩
  have hgw2 : w.heap.size < g := by omega
  have hgg : g < gq := by omega
  clear hQ hB2 y0 y1 y2
  go_wp2_with fail
  go_loopw [9] (fun v wr => PlRel lo hi n g gq w2 v wr) (fun v _ => n - (intOf v).toNat)
  case atStart => exact ⟨0, _, rfl, by omega, ⟨⟨HS2.out, HQ2.out, Touch.refl _ _⟩⟩, ⟨BInv.made HG.out⟩⟩
  case round =>
    obtain ⟨k, s, rfl, hk, hP, hI⟩ := hrel
    by_cases hlt : k < n ∧ k < 200
    · obtain ⟨hkn, hk2⟩ := hlt
      obtain ⟨ad, c0, c1, c2, c3, c4, c5, c6, rfl, hst⟩ := HL.out k hkn
      have hadb : (ad.add (k * 7)).block < w.heap.size := World.block_lt_of_cell? w _ hst.1
      have hcell : ∀ (p : Addr) (v : Value), p.block < w.heap.size → w.cell? p = some v → wr.cell? p = some v := by
        intro p v hp hc
        have e1 : wr.heap[p.block]? = w2.heap[p.block]? := hP.out.2.2.block _ (by omega) (by omega)
        have e2 : w2.heap[p.block]? = w.heap[p.block]? := HBB.out.block _ hp
        rw [World.cell?_of_block (w := w) (e1.trans e2)]
        exact hc
      obtain ⟨g0, g1, g2, g3, g4, g5, g6⟩ := hst
      have t0 := hcell _ _ hadb g0
      have t1 := hcell ⟨(ad.add (k * 7)).block, (ad.add (k * 7)).off + 1, none⟩ _ hadb g1
      have t2 := hcell ⟨(ad.add (k * 7)).block, (ad.add (k * 7)).off + 2, none⟩ _ hadb g2
      have t3 := hcell ⟨(ad.add (k * 7)).block, (ad.add (k * 7)).off + 3, none⟩ _ hadb g3
      have t4 := hcell ⟨(ad.add (k * 7)).block, (ad.add (k * 7)).off + 4, none⟩ _ hadb g4
      have t5 := hcell ⟨(ad.add (k * 7)).block, (ad.add (k * 7)).off + 5, none⟩ _ hadb g5
      have t6 := hcell ⟨(ad.add (k * 7)).block, (ad.add (k * 7)).off + 6, none⟩ _ hadb g6
      clear g0 g1 g2 g3 g4 g5 g6 hcell
      have hgwr : g < wr.heap.size := blk_lt hP.out.1
      have hgqr : gq < wr.heap.size := blk_lt hP.out.2.1
      have HSa : Aside0 (ScIs (wr.alloc (.cells #[.int .i64 c0, .int .i64 c1, .int .i64 c2, .bool c3, .bool c4, .int .i64 c5, .int .i64 c6] 32)) g s) := ⟨(Below.heap_alloc wr _ g hgwr).trans hP.out.1⟩
      have HQa : Aside0 (RscIs (wr.alloc (.cells #[.int .i64 c0, .int .i64 c1, .int .i64 c2, .bool c3, .bool c4, .int .i64 c5, .int .i64 c6] 32)) gq s) := ⟨(Below.heap_alloc wr _ gq hgqr).trans hP.out.2.1⟩
      have HTa := Aside0.mk (hP.out.2.2.alloc (.cells #[.int .i64 c0, .int .i64 c1, .int .i64 c2, .bool c3, .bool c4, .int .i64 c5, .int .i64 c6] 32))
      have HEa : Aside0 ((wr.alloc (.cells #[.int .i64 c0, .int .i64 c1, .int .i64 c2, .bool c3, .bool c4, .int .i64 c5, .int .i64 c6] 32)).heap[wr.heap.size]? = some (.cells #[.int .i64 c0, .int .i64 c1, .int .i64 c2, .bool c3, .bool c4, .int .i64 c5, .int .i64 c6] 32 (0, 0))) := ⟨blk_new wr _⟩
      have hk1 : c0 = 1 ∨ ¬ c0 = 1 := by omega
      rcases hk1 with h0 | h0
      · subst h0
        go_wp2_with fail
        refine (age_any g s c2 _ HSa.out).mono ?_
        rintro e w3 ⟨rfl, hS3, hT3⟩
        have hE := hT3.kept HEa.out (by show ¬ wr.heap.size = g; omega)
        have e2 := blk_cell hE 2
        simp only [List.getElem?_toArray, List.getElem?_cons_zero, List.getElem?_cons_succ] at e2
        have HS3 := Aside0.mk hS3
        have HQ3 : Aside0 (RscIs w3 gq s) := ⟨(hT3.block gq (by simp; omega) (by omega)).trans HQa.out⟩
        have HT3 := Aside0.mk (HTa.out.trans hT3 (fun i hi => .inl (.inl hi)))
        clear t0 t1 t2 t3 t4 t5 t6 hS3 hE hT3
        go_wp2_with fail
        refine (rage_any gq s c2 _ HQ3.out).mono ?_
        rintro e w4 ⟨rfl, hS4, hT4⟩
        have HA : Aside0 (ScIs w4 g { s with old := decide (60000 < c2) }) := ⟨(hT4.block g (blk_lt HS3.out) (by omega)).trans HS3.out⟩
        have HB_ := Aside0.mk hS4
        have HT4 := Aside0.mk (HT3.out.trans hT4 (fun i hi => .inl (.inr hi)))
        clear hS4 hT4 e2
        have HI4 := Aside0.mk (hI.out.age (decide (60000 < c2)))
        generalize ({ s with old := decide (60000 < c2) } : Sc) = s4 at *
        go_wp2_with fail
        refine (window_any g _ _ HA.out).mono ?_
        rintro e v1 ⟨rfl, hv⟩
        obtain rfl := hv.symm
        go_wp2_with fail
        refine (rwindow_any gq _ _ HB_.out).mono ?_
        rintro e v1 ⟨rfl, hv⟩
        obtain rfl := hv.symm
        go_wp2_with fail
        refine (rate_any g _ _ HA.out).mono ?_
        rintro e v1 ⟨rfl, hv⟩
        obtain rfl := hv.symm
        go_wp2_with fail
        refine (rrate_any gq _ _ HB_.out).mono ?_
        rintro e v1 ⟨rfl, hv⟩
        obtain rfl := hv.symm
        go_wp2_with fail
        refine (fast_any g _ _ HA.out).mono ?_
        rintro e v1 ⟨rfl, hv⟩
        obtain rfl := hv.symm
        go_wp2_with fail
        refine (rfast_any gq _ _ HB_.out).mono ?_
        rintro e v1 ⟨rfl, hv⟩
        obtain rfl := hv.symm
        go_wp2_with fail
        go_roundw
        case rel => exact ⟨k + 1, s4, by go_num, by omega, ⟨⟨HA.out, HB_.out, HT4.out⟩⟩, HI4⟩
        case measure => simp [intOf]; omega
      · have d0 : (c0 == 1) = false := beq_eq_false_iff_ne.2 h0
        have hIh := hI.out.hear hlh h1 h4 c1 c2 c3 c4 c5 c6
        have CH1 := Aside0.mk (fun w' (h : ScIs w' g s) => hear_any g s c1 c2 c5 c6 c3 c4 w' h hI.out.ok)
        have CH2 := Aside0.mk (fun w' (h : RscIs w' gq s) => rhear_any gq s c1 c2 c5 c6 c3 c4 w' h hI.out.ok)
        obtain ⟨F, hF⟩ : ∃ F, F = Sc.hear s c1 c2 c3 c4 c5 c6 := ⟨_, rfl⟩
        rw [← hF] at CH1 CH2 hIh
        have HI4 := Aside0.mk hIh.1
        clear hF hIh
        go_wp2_with fail
        clear t0 t1 t2 t3 t4 t5 t6
        have hbx : g < wr.heap.size ∧ gq < wr.heap.size := ⟨hgwr, hgqr⟩
        obtain ⟨bx, hbxe⟩ : ∃ bx, bx = wr.heap.size := ⟨_, rfl⟩
        rw [← hbxe] at HEa hbx ⊢
        have HBX := Aside0.mk hbxe
        obtain ⟨hbx1, hbx2⟩ := hbx
        clear hbxe
        generalize wr.alloc (.cells #[.int .i64 c0, .int .i64 c1, .int .i64 c2, .bool c3, .bool c4, .int .i64 c5, .int .i64 c6] 32) = W at *
        have HS3 : Aside0 (ScIs W.drew g s) := ⟨HSa.out⟩
        have HQ3 : Aside0 (RscIs W.drew gq s) := ⟨HQa.out⟩
        have HEX : Aside0 (W.drew.heap[bx]? = some (.cells #[.int .i64 c0, .int .i64 c1, .int .i64 c2, .bool c3, .bool c4, .int .i64 c5, .int .i64 c6] 32 (0, 0))) := ⟨HEa.out⟩
        have HTd := Aside0.mk HTa.out.drew
        have hE := HEX.out
        have e1 := blk_cell hE 1
        have e2 := blk_cell hE 2
        have e3 := blk_cell hE 3
        have e4 := blk_cell hE 4
        have e5 := blk_cell hE 5
        have e6 := blk_cell hE 6
        simp only [List.getElem?_toArray, List.getElem?_cons_zero, List.getElem?_cons_succ] at e1 e2 e3 e4 e5 e6
        clear hE
        refine start_ (n := 29) (S := fun w' => w'.cell? ⟨bx, 1, none⟩ = some (.int .i64 c1) ∧ w'.cell? ⟨bx, 2, none⟩ = some (.int .i64 c2) ∧ w'.cell? ⟨bx, 3, none⟩ = some (.bool c3) ∧ w'.cell? ⟨bx, 4, none⟩ = some (.bool c4) ∧ w'.cell? ⟨bx, 5, none⟩ = some (.int .i64 c5) ∧ w'.cell? ⟨bx, 6, none⟩ = some (.int .i64 c6) ∧ Aside0 (w'.heap[bx]? = some (.cells #[.int .i64 c0, .int .i64 c1, .int .i64 c2, .bool c3, .bool c4, .int .i64 c5, .int .i64 c6] 32 (0, 0)))) (ds := [27]) #[false, false, false, false, false, false, false, false, false, false, false, false, false, false, false, false, false, false, false, false, false, false, false, false, false, false, false, false, false] (by kernel_rfl) rfl rfl ⟨e1, e2, e3, e4, e5, e6, HEX⟩ (fun hHeld => ?_)
        refine pure_ (i := 0) (N := some 70) (v := ?_) (a' := ?_) #[true, false, false, false, false, false, false, false, false, false, false, false, false, false, false, false, false, false, false, false, false, false, false, false, false, false, false, false, false] rfl rfl (by kernel_rfl) (fun _ _ _ h => h) (Or.inl ⟨by rfl, ?_⟩) ?_ ?_
        rotate_left
        · intro w'
          go_simp
          with_reducible rfl
        rotate_left
        · simp only [Act.put, List.setIfInBounds_toArray, List.set_cons_zero, List.set_cons_succ, i64_w, i32_w]
          rfl
        refine pure_ (i := 1) (N := some 71) (v := ?_) (a' := ?_) #[true, true, false, false, false, false, false, false, false, false, false, false, false, false, false, false, false, false, false, false, false, false, false, false, false, false, false, false, false] rfl rfl (by kernel_rfl) (fun _ _ _ h => h) (Or.inl ⟨by rfl, ?_⟩) ?_ ?_
        rotate_left
        · intro w'
          go_simp
          with_reducible rfl
        rotate_left
        · simp only [Act.put, List.setIfInBounds_toArray, List.set_cons_zero, List.set_cons_succ, i64_w, i32_w]
          rfl
        refine pure_ (i := 3) (N := some 73) (v := ?_) (a' := ?_) #[true, true, false, true, false, false, false, false, false, false, false, false, false, false, false, false, false, false, false, false, false, false, false, false, false, false, false, false, false] rfl rfl (by kernel_rfl) (fun _ _ _ h => h) (Or.inl ⟨by rfl, ?_⟩) ?_ ?_
        rotate_left
        · intro w'
          go_simp
          with_reducible rfl
        rotate_left
        · simp only [Act.put, List.setIfInBounds_toArray, List.set_cons_zero, List.set_cons_succ, i64_w, i32_w]
          rfl
        refine pure_ (i := 5) (N := some 75) (v := ?_) (a' := ?_) #[true, true, false, true, false, true, false, false, false, false, false, false, false, false, false, false, false, false, false, false, false, false, false, false, false, false, false, false, false] rfl rfl (by kernel_rfl) (fun _ _ _ h => h) (Or.inl ⟨by rfl, ?_⟩) ?_ ?_
        rotate_left
        · intro w'
          go_simp
          with_reducible rfl
        rotate_left
        · simp only [Act.put, List.setIfInBounds_toArray, List.set_cons_zero, List.set_cons_succ, i64_w, i32_w]
          rfl
        refine pure_ (i := 7) (N := some 77) (v := ?_) (a' := ?_) #[true, true, false, true, false, true, false, true, false, false, false, false, false, false, false, false, false, false, false, false, false, false, false, false, false, false, false, false, false] rfl rfl (by kernel_rfl) (fun _ _ _ h => h) (Or.inl ⟨by rfl, ?_⟩) ?_ ?_
        rotate_left
        · intro w'
          go_simp
          with_reducible rfl
        rotate_left
        · simp only [Act.put, List.setIfInBounds_toArray, List.set_cons_zero, List.set_cons_succ, i64_w, i32_w]
          rfl
        refine pure_ (i := 9) (N := some 79) (v := ?_) (a' := ?_) #[true, true, false, true, false, true, false, true, false, true, false, false, false, false, false, false, false, false, false, false, false, false, false, false, false, false, false, false, false] rfl rfl (by kernel_rfl) (fun _ _ _ h => h) (Or.inl ⟨by rfl, ?_⟩) ?_ ?_
        rotate_left
        · intro w'
          go_simp
          with_reducible rfl
        rotate_left
        · simp only [Act.put, List.setIfInBounds_toArray, List.set_cons_zero, List.set_cons_succ, i64_w, i32_w]
          rfl
        refine pure_ (i := 11) (N := some 81) (v := ?_) (a' := ?_) #[true, true, false, true, false, true, false, true, false, true, false, true, false, false, false, false, false, false, false, false, false, false, false, false, false, false, false, false, false] rfl rfl (by kernel_rfl) (fun _ _ _ h => h) (Or.inl ⟨by rfl, ?_⟩) ?_ ?_
        rotate_left
        · intro w'
          go_simp
          with_reducible rfl
        rotate_left
        · simp only [Act.put, List.setIfInBounds_toArray, List.set_cons_zero, List.set_cons_succ, i64_w, i32_w]
          rfl
        refine pure_ (i := 14) (N := some 84) (v := ?_) (a' := ?_) #[true, true, false, true, false, true, false, true, false, true, false, true, false, false, true, false, false, false, false, false, false, false, false, false, false, false, false, false, false] rfl rfl (by kernel_rfl) (fun _ _ _ h => h) (Or.inl ⟨by rfl, ?_⟩) ?_ ?_
        rotate_left
        · intro w'
          go_simp
          with_reducible rfl
        rotate_left
        · simp only [Act.put, List.setIfInBounds_toArray, List.set_cons_zero, List.set_cons_succ, i64_w, i32_w]
          rfl
        refine pure_ (i := 15) (N := some 85) (v := ?_) (a' := ?_) #[true, true, false, true, false, true, false, true, false, true, false, true, false, false, true, true, false, false, false, false, false, false, false, false, false, false, false, false, false] rfl rfl (by kernel_rfl) (fun _ _ _ h => h) (Or.inl ⟨by rfl, ?_⟩) ?_ ?_
        rotate_left
        · intro w'
          go_simp
          with_reducible rfl
        rotate_left
        · simp only [Act.put, List.setIfInBounds_toArray, List.set_cons_zero, List.set_cons_succ, i64_w, i32_w]
          rfl
        refine pure_ (i := 17) (N := some 87) (v := ?_) (a' := ?_) #[true, true, false, true, false, true, false, true, false, true, false, true, false, false, true, true, false, true, false, false, false, false, false, false, false, false, false, false, false] rfl rfl (by kernel_rfl) (fun _ _ _ h => h) (Or.inl ⟨by rfl, ?_⟩) ?_ ?_
        rotate_left
        · intro w'
          go_simp
          with_reducible rfl
        rotate_left
        · simp only [Act.put, List.setIfInBounds_toArray, List.set_cons_zero, List.set_cons_succ, i64_w, i32_w]
          rfl
        refine pure_ (i := 19) (N := some 89) (v := ?_) (a' := ?_) #[true, true, false, true, false, true, false, true, false, true, false, true, false, false, true, true, false, true, false, true, false, false, false, false, false, false, false, false, false] rfl rfl (by kernel_rfl) (fun _ _ _ h => h) (Or.inl ⟨by rfl, ?_⟩) ?_ ?_
        rotate_left
        · intro w'
          go_simp
          with_reducible rfl
        rotate_left
        · simp only [Act.put, List.setIfInBounds_toArray, List.set_cons_zero, List.set_cons_succ, i64_w, i32_w]
          rfl
        refine pure_ (i := 21) (N := some 91) (v := ?_) (a' := ?_) #[true, true, false, true, false, true, false, true, false, true, false, true, false, false, true, true, false, true, false, true, false, true, false, false, false, false, false, false, false] rfl rfl (by kernel_rfl) (fun _ _ _ h => h) (Or.inl ⟨by rfl, ?_⟩) ?_ ?_
        rotate_left
        · intro w'
          go_simp
          with_reducible rfl
        rotate_left
        · simp only [Act.put, List.setIfInBounds_toArray, List.set_cons_zero, List.set_cons_succ, i64_w, i32_w]
          rfl
        refine pure_ (i := 23) (N := some 93) (v := ?_) (a' := ?_) #[true, true, false, true, false, true, false, true, false, true, false, true, false, false, true, true, false, true, false, true, false, true, false, true, false, false, false, false, false] rfl rfl (by kernel_rfl) (fun _ _ _ h => h) (Or.inl ⟨by rfl, ?_⟩) ?_ ?_
        rotate_left
        · intro w'
          go_simp
          with_reducible rfl
        rotate_left
        · simp only [Act.put, List.setIfInBounds_toArray, List.set_cons_zero, List.set_cons_succ, i64_w, i32_w]
          rfl
        refine pure_ (i := 25) (N := some 95) (v := ?_) (a' := ?_) #[true, true, false, true, false, true, false, true, false, true, false, true, false, false, true, true, false, true, false, true, false, true, false, true, false, true, false, false, false] rfl rfl (by kernel_rfl) (fun _ _ _ h => h) (Or.inl ⟨by rfl, ?_⟩) ?_ ?_
        rotate_left
        · intro w'
          go_simp
          with_reducible rfl
        rotate_left
        · simp only [Act.put, List.setIfInBounds_toArray, List.set_cons_zero, List.set_cons_succ, i64_w, i32_w]
          rfl
        refine take_ (i := 2) (N := some 72) (v := ?_) (a' := ?_) #[true, true, true, true, false, true, false, true, false, true, false, true, false, false, true, true, false, true, false, true, false, true, false, true, false, true, false, false, false] rfl rfl (by kernel_rfl) (fun _ _ _ h => h) (Or.inl ⟨by rfl, ?_⟩) hHeld ?_ ?_
        rotate_left
        · rintro w' ⟨s0, s1, s2, s3, s4, s5, s6⟩
          go_simp
          with_reducible rfl
        rotate_left
        · simp only [Act.put, List.setIfInBounds_toArray, List.set_cons_zero, List.set_cons_succ, i64_w, i32_w]
          rfl
        refine take_ (i := 4) (N := some 74) (v := ?_) (a' := ?_) #[true, true, true, true, true, true, false, true, false, true, false, true, false, false, true, true, false, true, false, true, false, true, false, true, false, true, false, false, false] rfl rfl (by kernel_rfl) (fun _ _ _ h => h) (Or.inl ⟨by rfl, ?_⟩) hHeld ?_ ?_
        rotate_left
        · rintro w' ⟨s0, s1, s2, s3, s4, s5, s6⟩
          go_simp
          with_reducible rfl
        rotate_left
        · simp only [Act.put, List.setIfInBounds_toArray, List.set_cons_zero, List.set_cons_succ, i64_w, i32_w]
          rfl
        refine take_ (i := 6) (N := some 76) (v := ?_) (a' := ?_) #[true, true, true, true, true, true, true, true, false, true, false, true, false, false, true, true, false, true, false, true, false, true, false, true, false, true, false, false, false] rfl rfl (by kernel_rfl) (fun _ _ _ h => h) (Or.inl ⟨by rfl, ?_⟩) hHeld ?_ ?_
        rotate_left
        · rintro w' ⟨s0, s1, s2, s3, s4, s5, s6⟩
          go_simp
          with_reducible rfl
        rotate_left
        · simp only [Act.put, List.setIfInBounds_toArray, List.set_cons_zero, List.set_cons_succ, i64_w, i32_w]
          rfl
        refine take_ (i := 8) (N := some 78) (v := ?_) (a' := ?_) #[true, true, true, true, true, true, true, true, true, true, false, true, false, false, true, true, false, true, false, true, false, true, false, true, false, true, false, false, false] rfl rfl (by kernel_rfl) (fun _ _ _ h => h) (Or.inl ⟨by rfl, ?_⟩) hHeld ?_ ?_
        rotate_left
        · rintro w' ⟨s0, s1, s2, s3, s4, s5, s6⟩
          go_simp
          with_reducible rfl
        rotate_left
        · simp only [Act.put, List.setIfInBounds_toArray, List.set_cons_zero, List.set_cons_succ, i64_w, i32_w]
          rfl
        refine take_ (i := 10) (N := some 80) (v := ?_) (a' := ?_) #[true, true, true, true, true, true, true, true, true, true, true, true, false, false, true, true, false, true, false, true, false, true, false, true, false, true, false, false, false] rfl rfl (by kernel_rfl) (fun _ _ _ h => h) (Or.inl ⟨by rfl, ?_⟩) hHeld ?_ ?_
        rotate_left
        · rintro w' ⟨s0, s1, s2, s3, s4, s5, s6⟩
          go_simp
          with_reducible rfl
        rotate_left
        · simp only [Act.put, List.setIfInBounds_toArray, List.set_cons_zero, List.set_cons_succ, i64_w, i32_w]
          rfl
        refine take_ (i := 12) (N := some 82) (v := ?_) (a' := ?_) #[true, true, true, true, true, true, true, true, true, true, true, true, true, false, true, true, false, true, false, true, false, true, false, true, false, true, false, false, false] rfl rfl (by kernel_rfl) (fun _ _ _ h => h) (Or.inl ⟨by rfl, ?_⟩) hHeld ?_ ?_
        rotate_left
        · rintro w' ⟨s0, s1, s2, s3, s4, s5, s6⟩
          go_simp
          with_reducible rfl
        rotate_left
        · simp only [Act.put, List.setIfInBounds_toArray, List.set_cons_zero, List.set_cons_succ, i64_w, i32_w]
          rfl
        refine take_ (i := 16) (N := some 86) (v := ?_) (a' := ?_) #[true, true, true, true, true, true, true, true, true, true, true, true, true, false, true, true, true, true, false, true, false, true, false, true, false, true, false, false, false] rfl rfl (by kernel_rfl) (fun _ _ _ h => h) (Or.inl ⟨by rfl, ?_⟩) hHeld ?_ ?_
        rotate_left
        · rintro w' ⟨s0, s1, s2, s3, s4, s5, s6⟩
          go_simp
          with_reducible rfl
        rotate_left
        · simp only [Act.put, List.setIfInBounds_toArray, List.set_cons_zero, List.set_cons_succ, i64_w, i32_w]
          rfl
        refine take_ (i := 18) (N := some 88) (v := ?_) (a' := ?_) #[true, true, true, true, true, true, true, true, true, true, true, true, true, false, true, true, true, true, true, true, false, true, false, true, false, true, false, false, false] rfl rfl (by kernel_rfl) (fun _ _ _ h => h) (Or.inl ⟨by rfl, ?_⟩) hHeld ?_ ?_
        rotate_left
        · rintro w' ⟨s0, s1, s2, s3, s4, s5, s6⟩
          go_simp
          with_reducible rfl
        rotate_left
        · simp only [Act.put, List.setIfInBounds_toArray, List.set_cons_zero, List.set_cons_succ, i64_w, i32_w]
          rfl
        refine take_ (i := 20) (N := some 90) (v := ?_) (a' := ?_) #[true, true, true, true, true, true, true, true, true, true, true, true, true, false, true, true, true, true, true, true, true, true, false, true, false, true, false, false, false] rfl rfl (by kernel_rfl) (fun _ _ _ h => h) (Or.inl ⟨by rfl, ?_⟩) hHeld ?_ ?_
        rotate_left
        · rintro w' ⟨s0, s1, s2, s3, s4, s5, s6⟩
          go_simp
          with_reducible rfl
        rotate_left
        · simp only [Act.put, List.setIfInBounds_toArray, List.set_cons_zero, List.set_cons_succ, i64_w, i32_w]
          rfl
        refine take_ (i := 22) (N := some 92) (v := ?_) (a' := ?_) #[true, true, true, true, true, true, true, true, true, true, true, true, true, false, true, true, true, true, true, true, true, true, true, true, false, true, false, false, false] rfl rfl (by kernel_rfl) (fun _ _ _ h => h) (Or.inl ⟨by rfl, ?_⟩) hHeld ?_ ?_
        rotate_left
        · rintro w' ⟨s0, s1, s2, s3, s4, s5, s6⟩
          go_simp
          with_reducible rfl
        rotate_left
        · simp only [Act.put, List.setIfInBounds_toArray, List.set_cons_zero, List.set_cons_succ, i64_w, i32_w]
          rfl
        refine take_ (i := 24) (N := some 94) (v := ?_) (a' := ?_) #[true, true, true, true, true, true, true, true, true, true, true, true, true, false, true, true, true, true, true, true, true, true, true, true, true, true, false, false, false] rfl rfl (by kernel_rfl) (fun _ _ _ h => h) (Or.inl ⟨by rfl, ?_⟩) hHeld ?_ ?_
        rotate_left
        · rintro w' ⟨s0, s1, s2, s3, s4, s5, s6⟩
          go_simp
          with_reducible rfl
        rotate_left
        · simp only [Act.put, List.setIfInBounds_toArray, List.set_cons_zero, List.set_cons_succ, i64_w, i32_w]
          rfl
        refine take_ (i := 26) (N := some 96) (v := ?_) (a' := ?_) #[true, true, true, true, true, true, true, true, true, true, true, true, true, false, true, true, true, true, true, true, true, true, true, true, true, true, true, false, false] rfl rfl (by kernel_rfl) (fun _ _ _ h => h) (Or.inl ⟨by rfl, ?_⟩) hHeld ?_ ?_
        rotate_left
        · rintro w' ⟨s0, s1, s2, s3, s4, s5, s6⟩
          go_simp
          with_reducible rfl
        rotate_left
        · simp only [Act.put, List.setIfInBounds_toArray, List.set_cons_zero, List.set_cons_succ, i64_w, i32_w]
          rfl
        refine one_ (i := 13) (N := some 83) #[true, true, true, true, true, true, true, true, true, true, true, true, true, true, true, true, true, true, true, true, true, true, true, true, true, true, true, false, false] rfl rfl (by kernel_rfl) (by decide) (fun K hK => ?_)
        refine goes_ Try.func11 (by kernel_rfl) rfl #[.pointer (some ⟨g, 0, none⟩), .int .i64 c1, .int .i64 c2, .bool c3, .bool c4, .int .i64 c5, .int .i64 c6] (by rfl) rfl rfl (by simp only [List.map_toArray, List.map_cons, List.map_nil]; rfl) ?_
        with_reducible refine (CH1.out _ HS3.out).mono ?_
        rintro e w5 ⟨rfl, hx1, hx2⟩
        refine ⟨_, rfl, ?_⟩
        have hE5 := hx2.kept (hHeld.2.2.2.2.2.2).out (by show ¬ bx = g; omega)
        have u1 := blk_cell hE5 1
        have u2 := blk_cell hE5 2
        have u3 := blk_cell hE5 3
        have u4 := blk_cell hE5 4
        have u5 := blk_cell hE5 5
        have u6 := blk_cell hE5 6
        simp only [List.getElem?_toArray, List.getElem?_cons_zero, List.getElem?_cons_succ] at u1 u2 u3 u4 u5 u6
        have HX1 := Aside0.mk hx1
        have HX2 := Aside0.mk hx2
        have HE5 := Aside0.mk hE5
        have HQ5 : Aside0 (RscIs w5 gq s) := ⟨(hx2.block gq (blk_lt HQ3.out) (by omega)).trans HQ3.out⟩
        clear hx1 hx2 hE5
        refine hK.out _ _ ⟨u1, u2, u3, u4, u5, u6, HE5⟩ (fun hHeld => ?_)
        clear hK K
        refine norm_ (a' := ?_) ?_ ?_
        rotate_left
        · show Act.put _ (some 83) _ = _
          simp only [Act.put, List.setIfInBounds_toArray, List.set_cons_zero, List.set_cons_succ, i64_w, i32_w]
          rfl
        refine last_ (i := 27) (N := some 97) #[true, true, true, true, true, true, true, true, true, true, true, true, true, true, true, true, true, true, true, true, true, true, true, true, true, true, true, true, false] rfl rfl (by kernel_rfl) (by decide) (fun K hK => ?_)
        refine goes_ Try.func17 (by kernel_rfl) rfl #[.pointer (some ⟨gq, 0, none⟩), .int .i64 c1, .int .i64 c2, .bool c3, .bool c4, .int .i64 c5, .int .i64 c6] (by rfl) rfl rfl (by simp only [List.map_toArray, List.map_cons, List.map_nil]; rfl) ?_
        with_reducible refine (CH2.out _ HQ5.out).mono ?_
        rintro e w6 ⟨rfl, hx1, hx2⟩
        refine ⟨_, rfl, ?_⟩
        have HX3 := Aside0.mk hx1
        have HX4 := Aside0.mk hx2
        clear hx1 hx2
        refine hK.out _ _ ?_
        clear hK K
        refine norm_ (a' := ?_) ?_ ?_
        rotate_left
        · show Act.put _ (some 97) _ = _
          simp only [Act.put, List.setIfInBounds_toArray, List.set_cons_zero, List.set_cons_succ, i64_w, i32_w]
          rfl
        refine pure_ (i := 28) (N := some 98) (v := ?_) (a' := ?_) #[true, true, true, true, true, true, true, true, true, true, true, true, true, true, true, true, true, true, true, true, true, true, true, true, true, true, true, true, true] rfl rfl (by kernel_rfl) (fun _ _ _ h => h) (Or.inl ⟨by rfl, ?_⟩) ?_ ?_
        rotate_left
        · intro w'
          go_simp
          with_reducible rfl
        rotate_left
        · simp only [Act.put, List.setIfInBounds_toArray, List.set_cons_zero, List.set_cons_succ, i64_w, i32_w]
          rfl
        refine done_ (by kernel_rfl) ?_
        have HA : Aside0 (ScIs w6 g F.1) := ⟨(HX4.out.block g (blk_lt HX1.out) (by omega)).trans HX1.out⟩
        have HB_ := HX3
        have HT6 := Aside0.mk ((HTd.out.trans HX2.out (fun i hi => .inl (.inl hi))).trans HX4.out (fun i hi => .inl (.inr hi)))
        clear e1 e2 e3 e4 e5 e6
        obtain ⟨s4, F2⟩ := F
        dsimp only at HA HB_ HI4
        go_wp2_with fail
        refine (window_any g _ _ HA.out).mono ?_
        rintro e v1 ⟨rfl, hv⟩
        obtain rfl := hv.symm
        go_wp2_with fail
        refine (rwindow_any gq _ _ HB_.out).mono ?_
        rintro e v1 ⟨rfl, hv⟩
        obtain rfl := hv.symm
        go_wp2_with fail
        refine (rate_any g _ _ HA.out).mono ?_
        rintro e v1 ⟨rfl, hv⟩
        obtain rfl := hv.symm
        go_wp2_with fail
        refine (rrate_any gq _ _ HB_.out).mono ?_
        rintro e v1 ⟨rfl, hv⟩
        obtain rfl := hv.symm
        go_wp2_with fail
        refine (fast_any g _ _ HA.out).mono ?_
        rintro e v1 ⟨rfl, hv⟩
        obtain rfl := hv.symm
        go_wp2_with fail
        refine (rfast_any gq _ _ HB_.out).mono ?_
        rintro e v1 ⟨rfl, hv⟩
        obtain rfl := hv.symm
        go_wp2_with fail
        go_roundw
        case rel => exact ⟨k + 1, s4, by go_num, by omega, ⟨⟨HA.out, HB_.out, HT6.out⟩⟩, HI4⟩
        case measure => simp [intOf]; omega
    · by_cases hkn : k < n
      · have hk2 : ¬ k < 200 := fun hh => hlt ⟨hkn, hh⟩
        clear hlt
        go_wp2_with fail
        refine (wakes_any _).mono ?_
        rintro e w5 ⟨rfl, hB5⟩
        go_wp2_with fail
        go_ret
        exact ⟨rfl, (HBB.out.trans (hP.out.2.2.toBelow HBB.out.size (fun i hi => by omega))).trans (hB5.mono (by have := hP.out.2.2.size; have := HBB.out.size; omega))⟩
      · clear hlt
        go_wp2_with fail
        refine (wakes_any _).mono ?_
        rintro e w5 ⟨rfl, hB5⟩
        go_wp2_with fail
        go_ret
        exact ⟨rfl, (HBB.out.trans (hP.out.2.2.toBelow HBB.out.size (fun i hi => by omega))).trans (hB5.mono (by have := hP.out.2.2.size; have := HBB.out.size; omega))⟩
set_option maxHeartbeats 2000000 in
set_option maxRecDepth 100000 in
theorem plays_bad (start lo hi : Int) (A : Option Addr) (n c : Nat) (w : World) (hbad : goodSc start lo hi = false) :
    Calls Try.prog 6 #[.agg #[.int .i64 start, .int .i64 lo, .int .i64 hi], .slice A n c] w fun e w' => e = .returned (.bool true) ∧ Below w.heap.size w w' := by
  have HG := Aside0.mk hbad
  clear hbad
  go_enter Try.func6, Try.ntmps6
  go_wp2_with fail
  refine (scnew_bad start lo hi _ HG.out).mono ?_
  rintro e w1 ⟨rfl, rfl⟩
  go_wp2_with fail
  refine (rscnew_bad start lo hi _ HG.out).mono ?_
  rintro e w1 ⟨rfl, rfl⟩
  have hB1 : Aside0 (Below w.heap.size w (w.alloc (.cells #[.int .i64 start, .int .i64 lo, .int .i64 hi] 23))) := ⟨(Below.refl _ _).alloc (Nat.le_refl _) _⟩
  go_wp2_with fail
  go_loopw [9] (fun v wr => v = .int .i64 0 ∧ wr = w.alloc (.cells #[.int .i64 start, .int .i64 lo, .int .i64 hi] 23)) (fun v _ => 0)
  case atStart => exact ⟨rfl, rfl⟩
  case round =>
    obtain ⟨rfl, rfl⟩ := hrel
    by_cases h : 0 < n
    all_goals
      go_wp2_with fail
      refine (wakes_any _).mono ?_
      rintro e w5 ⟨rfl, hB5⟩
      go_wp2_with fail
      go_ret
      exact ⟨rfl, hB1.out.trans (hB5.mono (by simp))⟩
theorem plays_true (start lo hi : Int) (A : Option Addr) (n c : Nat) (w : World) (_ : I64 start) (_ : I64 lo) (_ : I64 hi) (h1 : n ≤ c) (h2 : c ≤ maxLen) (hl : ∀ i, i < n → ∃ (ad : Addr) (c0 : Int) (c1 : Int) (c2 : Int) (c3 : Bool) (c4 : Bool) (c5 : Int) (c6 : Int), A = some ad ∧ w.cell? (ad.add (i * 7 + 0)) = some (.int .i64 c0) ∧ I64 c0 ∧ w.cell? (ad.add (i * 7 + 1)) = some (.int .i64 c1) ∧ I64 c1 ∧ w.cell? (ad.add (i * 7 + 2)) = some (.int .i64 c2) ∧ I64 c2 ∧ w.cell? (ad.add (i * 7 + 3)) = some (.bool c3) ∧ w.cell? (ad.add (i * 7 + 4)) = some (.bool c4) ∧ w.cell? (ad.add (i * 7 + 5)) = some (.int .i64 c5) ∧ I64 c5 ∧ w.cell? (ad.add (i * 7 + 6)) = some (.int .i64 c6) ∧ I64 c6) :
    Calls Try.prog 6 #[.agg #[.int .i64 start, .int .i64 lo, .int .i64 hi], .slice A n c] w fun e w' => e = .returned (.bool true) ∧ Below w.heap.size w w' := by
  cases hg : goodSc start lo hi
  · exact plays_bad start lo hi A n c w hg
  · exact plays_good start lo hi A n c w hg (by unfold maxLen at h2; omega) (stepsAt_of hl)
end Go.Proofs.Ythlgndgacmalaaa.B
