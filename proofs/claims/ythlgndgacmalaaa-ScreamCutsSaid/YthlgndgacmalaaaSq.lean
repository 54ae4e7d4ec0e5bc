/-
  What a cut does to the third controller, and that nothing else cuts it: the law, walked.
-/
import Derived.Test.YthlgndgacmalaaaSk
import Derived.Test.YthlgndgacmalaaaSo
import Derived.Test.YthlgndgacmalaaaSb
namespace Go.Proofs.Ythlgndgacmalaaa.B
open Go.RowKit Go.Proofs.YthlgndgacmalaaaW.PrintWords Go.Proofs.YthlgndgacmalaaaW.PrintLast Go.Proofs.YthlgndgacmalaaaW.PrintMore
set_option linter.unusedVariables false
set_option linter.unusedSimpArgs false
def CRel (lo hi : Int) (n g : Nat) (w2 : World) (v9 v10 : Value) (wr : World) : Prop :=
  ∃ (k : Nat) (s : Sc) (nw : Int), v9 = .int .i64 nw ∧ v10 = .int .i64 k ∧ k ≤ n ∧ k ≤ 100 ∧ 0 ≤ nw ∧ nw ≤ k * 1001000 ∧ Aside0 (ScIs wr g s) ∧ Aside0 (CInv lo hi s) ∧ Aside0 (Touch (fun i => i = g) w2 wr)
theorem CInv.made {start lo hi : Int} (h : goodSc start lo hi = true) : CInv lo hi (Sc.made start lo hi) := ⟨BInv.made h, rfl⟩
set_option maxHeartbeats 8000000 in
set_option maxRecDepth 100000 in
theorem cuts_good (start lo hi : Int) (A : Option Addr) (n c : Nat) (lost : Bool) (w : World) (hgood : goodSc start lo hi = true) (hn : n ≤ 9223372036854775807) (hl : StepsAt w A n) :
    Calls Try.prog 3 #[.agg #[.int .i64 start, .int .i64 lo, .int .i64 hi], .slice A n c, .bool lost] w fun e w' => e = .returned (.bool true) ∧ Below w.heap.size w w' := by
  have HL := Aside0.mk hl
  have HG := Aside0.mk hgood
  have h := hgood
  simp only [goodSc, decide_eq_true_eq] at h
  obtain ⟨h1, h2, h3, h4⟩ := h
  have hlh : lo ≤ hi := by omega
  have hhi : 0 ≤ hi := by omega
  clear hl hgood h2 h3
  go_enter Try.func3, Try.ntmps3
  go_wp2_with fail
  refine (scnew_good start lo hi _ HG.out).mono ?_
  rintro e w1 ⟨g, rfl, hg, hS, hB⟩
  have hB0 := hB.size
  simp at hB0 hg
  have hX : w1.heap[w.heap.size]? = some (.cells #[.int .i64 start, .int .i64 lo, .int .i64 hi] 23 (0, 0)) := (hB.block _ (by simp)).trans (blk_new _ _)
  have HX := Aside0.mk hX
  have HS := Aside0.mk hS
  have HB := Aside0.mk hB
  clear hX hS hB
  go_wp2_with fail
  go_loopw [9, 10] (fun v9 v10 wr => CRel lo hi n g w1 v9 v10 wr) (fun _ v _ => n - (intOf v).toNat)
  case atStart => exact ⟨0, _, 0, rfl, rfl, by omega, by omega, by omega, by omega, HS, ⟨CInv.made HG.out⟩, ⟨Touch.refl _ _⟩⟩
  case round =>
    obtain ⟨k, s, nw, rfl, rfl, hk, hk100, hn0, hn1, hS, hI, hT⟩ := hrel
    by_cases hlt : k < n ∧ k < 100
    · obtain ⟨hkn, hk2⟩ := hlt
      obtain ⟨ad, c0, c1, c2, c3, c4, c5, c6, rfl, hst⟩ := HL.out k hkn
      have hadb : (ad.add (k * 7)).block < w.heap.size := World.block_lt_of_cell? w _ hst.1
      have hcell : ∀ (p : Addr) (v : Value), p.block < w.heap.size → w.cell? p = some v → wr.cell? p = some v := by
        intro p v hp hc
        have e1 : wr.heap[p.block]? = w1.heap[p.block]? := hT.out.block _ (by omega) (by omega)
        have e2 : w1.heap[p.block]? = w.heap[p.block]? := (HB.out.block _ (by simp; omega)).trans (Below.heap_alloc _ _ _ hp)
        rw [World.cell?_of_block (w := w) (e1.trans e2)]
        exact hc
      obtain ⟨g0, g1, g2, g3, g4, g5, g6⟩ := hst
      have t1 := hcell ⟨(ad.add (k * 7)).block, (ad.add (k * 7)).off + 1, none⟩ _ hadb g1
      have t2 := hcell ⟨(ad.add (k * 7)).block, (ad.add (k * 7)).off + 2, none⟩ _ hadb g2
      have t5 := hcell ⟨(ad.add (k * 7)).block, (ad.add (k * 7)).off + 5, none⟩ _ hadb g5
      have t6 := hcell ⟨(ad.add (k * 7)).block, (ad.add (k * 7)).off + 6, none⟩ _ hadb g6
      clear g0 g1 g2 g3 g4 g5 g6 hcell
      obtain ⟨M1, hM1⟩ : ∃ M, min c6 1000000 = M := ⟨_, rfl⟩
      obtain ⟨M2, hM2⟩ : ∃ M, max 0 M1 = M := ⟨_, rfl⟩
      have hb2 : 0 ≤ M2 ∧ M2 ≤ 1000000 := by omega
      obtain ⟨hb20, hb21⟩ := hb2
      obtain ⟨N1, hN1⟩ : ∃ N, nw + (1000 + M2) = N := ⟨_, rfl⟩
      obtain ⟨D0, hD0⟩ : ∃ N, max c2 0 = N := ⟨_, rfl⟩
      obtain ⟨D, hD⟩ : ∃ N, min D0 60000 = N := ⟨_, rfl⟩
      have hDD : 0 ≤ D ∧ D ≤ 60000 := by omega
      have hNN : 0 ≤ N1 ∧ N1 ≤ (k + 1 : Nat) * 1001000 := by omega
      have HDD := Aside0.mk hDD
      have HNN := Aside0.mk hNN
      clear hDD hNN
      go_wp2_with fail
      refine (window_any g s _ hS.out).mono ?_
      rintro e w5 ⟨rfl, hw5⟩
      have hw5 := hw5.symm
      subst hw5
      go_wp2_with fail
      clear hM1 hM2
      have HSD : Aside0 (ScIs wr.drew g s) := ⟨hS.out⟩
      refine start_ (n := 20) (S := fun w' => w'.cell? ⟨(ad.add (k * 7)).block, (ad.add (k * 7)).off + 1, none⟩ = some (.int .i64 c1) ∧ w'.cell? ⟨(ad.add (k * 7)).block, (ad.add (k * 7)).off + 2, none⟩ = some (.int .i64 c2) ∧ w'.cell? ⟨(ad.add (k * 7)).block, (ad.add (k * 7)).off + 5, none⟩ = some (.int .i64 c5)) (ds := [19]) #[false, false, false, false, false, false, false, false, false, false, false, false, false, false, false, false, false, false, false, false] (by kernel_rfl) rfl rfl ⟨t1, t2, t5⟩ (fun hHeld => ?_)
      refine pure_ (i := 0) (N := some 54) (v := ?_) (a' := ?_) #[true, false, false, false, false, false, false, false, false, false, false, false, false, false, false, false, false, false, false, false] rfl rfl (by kernel_rfl) (fun _ _ _ h => h) (Or.inl ⟨by rfl, ?_⟩) ?_ ?_
      rotate_left
      · intro w'
        go_simp
        with_reducible rfl
      rotate_left
      · simp only [Act.put, List.setIfInBounds_toArray, List.set_cons_zero, List.set_cons_succ, i64_w, i32_w]
        rfl
      refine pure_ (i := 1) (N := some 55) (v := ?_) (a' := ?_) #[true, true, false, false, false, false, false, false, false, false, false, false, false, false, false, false, false, false, false, false] rfl rfl (by kernel_rfl) (fun _ _ _ h => h) (Or.inl ⟨by rfl, ?_⟩) ?_ ?_
      rotate_left
      · intro w'
        go_simp
        with_reducible rfl
      rotate_left
      · simp only [Act.put, List.setIfInBounds_toArray, List.set_cons_zero, List.set_cons_succ, i64_w, i32_w]
        rfl
      refine pure_ (i := 2) (N := some 56) (v := ?_) (a' := ?_) #[true, true, true, false, false, false, false, false, false, false, false, false, false, false, false, false, false, false, false, false] rfl rfl (by kernel_rfl) (fun _ _ _ h => h) (Or.inl ⟨by rfl, ?_⟩) ?_ ?_
      rotate_left
      · intro w'
        go_simp
        with_reducible rfl
      rotate_left
      · simp only [Act.put, List.setIfInBounds_toArray, List.set_cons_zero, List.set_cons_succ, i64_w, i32_w]
        rfl
      refine pure_ (i := 3) (N := some 57) (v := ?_) (a' := ?_) #[true, true, true, true, false, false, false, false, false, false, false, false, false, false, false, false, false, false, false, false] rfl rfl (by kernel_rfl) (fun _ _ _ h => h) (Or.inl ⟨by rfl, ?_⟩) ?_ ?_
      rotate_left
      · intro w'
        go_simp
        with_reducible rfl
      rotate_left
      · simp only [Act.put, List.setIfInBounds_toArray, List.set_cons_zero, List.set_cons_succ, i64_w, i32_w]
        rfl
      refine pure_ (i := 4) (N := some 58) (v := ?_) (a' := ?_) #[true, true, true, true, true, false, false, false, false, false, false, false, false, false, false, false, false, false, false, false] rfl rfl (by kernel_rfl) (fun _ _ _ h => h) (Or.inl ⟨by rfl, ?_⟩) ?_ ?_
      rotate_left
      · intro w'
        go_simp
        with_reducible rfl
      rotate_left
      · simp only [Act.put, List.setIfInBounds_toArray, List.set_cons_zero, List.set_cons_succ, i64_w, i32_w]
        rfl
      refine pure_ (i := 6) (N := some 60) (v := ?_) (a' := ?_) #[true, true, true, true, true, false, true, false, false, false, false, false, false, false, false, false, false, false, false, false] rfl rfl (by kernel_rfl) (fun _ _ _ h => h) (Or.inl ⟨by rfl, ?_⟩) ?_ ?_
      rotate_left
      · intro w'
        go_simp
        with_reducible rfl
      rotate_left
      · simp only [Act.put, List.setIfInBounds_toArray, List.set_cons_zero, List.set_cons_succ, i64_w, i32_w]
        rfl
      refine pure_ (i := 7) (N := some 61) (v := ?_) (a' := ?_) #[true, true, true, true, true, false, true, true, false, false, false, false, false, false, false, false, false, false, false, false] rfl rfl (by kernel_rfl) (fun _ _ _ h => h) (Or.inl ⟨by rfl, ?_⟩) ?_ ?_
      rotate_left
      · intro w'
        go_simp
        with_reducible rfl
      rotate_left
      · simp only [Act.put, List.setIfInBounds_toArray, List.set_cons_zero, List.set_cons_succ, i64_w, i32_w]
        rfl
      refine pure_ (i := 8) (N := some 62) (v := ?_) (a' := ?_) #[true, true, true, true, true, false, true, true, true, false, false, false, false, false, false, false, false, false, false, false] rfl rfl (by kernel_rfl) (fun _ _ _ h => h) (Or.inl ⟨by rfl, ?_⟩) ?_ ?_
      rotate_left
      · intro w'
        go_simp
        with_reducible rfl
      rotate_left
      · simp only [Act.put, List.setIfInBounds_toArray, List.set_cons_zero, List.set_cons_succ, i64_w, i32_w]
        rfl
      refine pure_ (i := 9) (N := some 63) (v := ?_) (a' := ?_) #[true, true, true, true, true, false, true, true, true, true, false, false, false, false, false, false, false, false, false, false] rfl rfl (by kernel_rfl) (fun _ _ _ h => h) (Or.inl ⟨by rfl, ?_⟩) ?_ ?_
      rotate_left
      · intro w'
        go_simp
        with_reducible rfl
      rotate_left
      · simp only [Act.put, List.setIfInBounds_toArray, List.set_cons_zero, List.set_cons_succ, i64_w, i32_w]
        rfl
      refine pure_ (i := 13) (N := some 67) (v := ?_) (a' := ?_) #[true, true, true, true, true, false, true, true, true, true, false, false, false, true, false, false, false, false, false, false] rfl rfl (by kernel_rfl) (fun _ _ _ h => h) (Or.inl ⟨by rfl, ?_⟩) ?_ ?_
      rotate_left
      · intro w'
        go_simp
        with_reducible rfl
      rotate_left
      · simp only [Act.put, List.setIfInBounds_toArray, List.set_cons_zero, List.set_cons_succ, i64_w, i32_w]
        rfl
      refine pure_ (i := 14) (N := some 68) (v := ?_) (a' := ?_) #[true, true, true, true, true, false, true, true, true, true, false, false, false, true, true, false, false, false, false, false] rfl rfl (by kernel_rfl) (fun _ _ _ h => h) (Or.inl ⟨by rfl, ?_⟩) ?_ ?_
      rotate_left
      · intro w'
        go_simp
        with_reducible rfl
      rotate_left
      · simp only [Act.put, List.setIfInBounds_toArray, List.set_cons_zero, List.set_cons_succ, i64_w, i32_w]
        rfl
      refine pure_ (i := 15) (N := some 69) (v := ?_) (a' := ?_) #[true, true, true, true, true, false, true, true, true, true, false, false, false, true, true, true, false, false, false, false] rfl rfl (by kernel_rfl) (fun _ _ _ h => h) (Or.inl ⟨by rfl, ?_⟩) ?_ ?_
      rotate_left
      · intro w'
        go_simp
        with_reducible rfl
      rotate_left
      · simp only [Act.put, List.setIfInBounds_toArray, List.set_cons_zero, List.set_cons_succ, i64_w, i32_w]
        rfl
      refine pure_ (i := 16) (N := some 70) (v := ?_) (a' := ?_) #[true, true, true, true, true, false, true, true, true, true, false, false, false, true, true, true, true, false, false, false] rfl rfl (by kernel_rfl) (fun _ _ _ h => h) (Or.inl ⟨by rfl, ?_⟩) ?_ ?_
      rotate_left
      · intro w'
        go_simp
        with_reducible rfl
      rotate_left
      · simp only [Act.put, List.setIfInBounds_toArray, List.set_cons_zero, List.set_cons_succ, i64_w, i32_w]
        rfl
      refine pure_ (i := 18) (N := some 72) (v := ?_) (a' := ?_) #[true, true, true, true, true, false, true, true, true, true, false, false, false, true, true, true, true, false, true, false] rfl rfl (by kernel_rfl) (fun _ _ _ h => h) (Or.inl ⟨by rfl, ?_⟩) ?_ ?_
      rotate_left
      · intro w'
        go_simp
        with_reducible rfl
      rotate_left
      · simp only [Act.put, List.setIfInBounds_toArray, List.set_cons_zero, List.set_cons_succ, i64_w, i32_w]
        rfl
      refine take_ (i := 5) (N := some 59) (v := ?_) (a' := ?_) #[true, true, true, true, true, true, true, true, true, true, false, false, false, true, true, true, true, false, true, false] rfl rfl (by kernel_rfl) (fun _ _ _ h => h) (Or.inl ⟨by rfl, ?_⟩) hHeld ?_ ?_
      rotate_left
      · rintro w' ⟨s0, s1, s2⟩
        go_simp
        with_reducible rfl
      rotate_left
      · simp only [Act.put, List.setIfInBounds_toArray, List.set_cons_zero, List.set_cons_succ, i64_w, i32_w]
        rfl
      refine take_ (i := 10) (N := some 64) (v := ?_) (a' := ?_) #[true, true, true, true, true, true, true, true, true, true, true, false, false, true, true, true, true, false, true, false] rfl rfl (by kernel_rfl) (fun _ _ _ h => h) (Or.inl ⟨by rfl, ?_⟩) hHeld ?_ ?_
      rotate_left
      · rintro w' ⟨s0, s1, s2⟩
        go_simp
        with_reducible rfl
      rotate_left
      · simp only [Act.put, List.setIfInBounds_toArray, List.set_cons_zero, List.set_cons_succ, i64_w, i32_w]
        rfl
      refine pure_ (i := 11) (N := some 65) (v := ?_) (a' := ?_) #[true, true, true, true, true, true, true, true, true, true, true, true, false, true, true, true, true, false, true, false] rfl rfl (by kernel_rfl) (fun _ _ _ h => h) (Or.inl ⟨by rfl, ?_⟩) ?_ ?_
      rotate_left
      · intro w'
        go_simp
        with_reducible rfl
      rotate_left
      · simp only [Act.put, List.setIfInBounds_toArray, List.set_cons_zero, List.set_cons_succ, i64_w, i32_w]
        rfl
      refine pure_ (i := 12) (N := some 66) (v := ?_) (a' := ?_) #[true, true, true, true, true, true, true, true, true, true, true, true, true, true, true, true, true, false, true, false] rfl rfl (by kernel_rfl) (fun _ _ _ h => h) (Or.inl ⟨by rfl, ?_⟩) ?_ ?_
      rotate_left
      · intro w'
        go_simp
        with_reducible rfl
      rotate_left
      · simp only [Act.put, List.setIfInBounds_toArray, List.set_cons_zero, List.set_cons_succ, i64_w, i32_w]
        rfl
      refine take_ (i := 17) (N := some 71) (v := ?_) (a' := ?_) #[true, true, true, true, true, true, true, true, true, true, true, true, true, true, true, true, true, true, true, false] rfl rfl (by kernel_rfl) (fun _ _ _ h => h) (Or.inl ⟨by rfl, ?_⟩) hHeld ?_ ?_
      rotate_left
      · rintro w' ⟨s0, s1, s2⟩
        go_simp
        with_reducible rfl
      rotate_left
      · simp only [Act.put, List.setIfInBounds_toArray, List.set_cons_zero, List.set_cons_succ, i64_w, i32_w]
        rfl
      refine last_ (i := 19) (N := some 73) #[true, true, true, true, true, true, true, true, true, true, true, true, true, true, true, true, true, true, true, true] rfl rfl (by kernel_rfl) (by decide) (fun K hK => ?_)
      refine goes_ Try.func11 (by kernel_rfl) rfl #[.pointer (some ⟨g, 0, none⟩), .int .i64 c1, .int .i64 D, .bool false, .bool false, .int .i64 c5, .int .i64 N1] (by rfl) rfl rfl (by simp only [List.map_toArray, List.map_cons, List.map_nil]; rfl) ?_
      with_reducible refine (hear_any g s c1 D c5 N1 false false _ HSD.out hI.out.b.ok).mono ?_
      rintro e w3 ⟨rfl, hS3, hT3⟩
      refine ⟨_, rfl, ?_⟩
      refine hK.out _ _ ?_
      clear hK K
      refine norm_ (a' := ?_) ?_ ?_
      rotate_left
      · show Act.put _ (some 73) _ = _
        simp only [Act.put, List.setIfInBounds_toArray, List.set_cons_zero, List.set_cons_succ, i64_w, i32_w]
        rfl
      refine done_ (by kernel_rfl) ?_
      obtain ⟨hI3, hwin⟩ := hI.out.hear hlh h1 h4 c1 D c5 N1 HDD.out.1 HDD.out.2
      obtain ⟨F, hF⟩ : ∃ F, F = (Sc.hear s c1 D false false c5 N1).1 := ⟨_, rfl⟩
      rw [← hF] at hS3 hI3 hwin
      have hT13 : Touch (fun i => i = g) w1 w3 := hT.out.drew.trans hT3 (fun i hi => .inl hi)
      have hX3 := hT13.kept HX.out (by show ¬ w.heap.size = g; omega)
      have x2 := blk_cell hX3 2
      simp only [List.getElem?_toArray, List.getElem?_cons_zero, List.getElem?_cons_succ] at x2
      have HS3 := Aside0.mk hS3
      have HI3 := Aside0.mk hI3
      have HT13 := Aside0.mk hT13
      obtain ⟨B8, hB8'⟩ : ∃ N, max 3000 (hi / 8) = N := ⟨_, rfl⟩
      have hB8 : max 3000 (wrap64 (hi.tdiv 8)) = B8 := by rw [← hB8', Int.tdiv_eq_ediv_of_nonneg hhi]; congr 1; unfold wrap64; omega
      obtain ⟨WN, hWN⟩ : ∃ N, min s.win B8 = N := ⟨_, rfl⟩
      have hge : WN ≤ F.win := by omega
      have hdec : decide (F.win < WN) = false := by simp; omega
      clear hB8' hF hX3 hS3 hI3 hT13 hT3 hwin hD0 hD hN1 t1 t2 t5 t6
      have HS3D : Aside0 (ScIs w3.drew g F) := ⟨HS3.out⟩
      go_wp2_with fail
      refine start_ (n := 9) (S := fun w' => w'.cell? ⟨w.heap.size, 2, none⟩ = some (.int .i64 hi)) (ds := []) #[false, false, false, false, false, false, false, false, false] (by kernel_rfl) rfl rfl (x2) (fun hHeld => ?_)
      refine pure_ (i := 0) (N := some 74) (v := ?_) (a' := ?_) #[true, false, false, false, false, false, false, false, false] rfl rfl (by kernel_rfl) (fun _ _ _ h => h) (Or.inl ⟨by rfl, ?_⟩) ?_ ?_
      rotate_left
      · intro w'
        go_simp
        with_reducible rfl
      rotate_left
      · simp only [Act.put, List.setIfInBounds_toArray, List.set_cons_zero, List.set_cons_succ, i64_w, i32_w]
        rfl
      refine pure_ (i := 2) (N := some 76) (v := ?_) (a' := ?_) #[true, false, true, false, false, false, false, false, false] rfl rfl (by kernel_rfl) (fun _ _ _ h => h) (Or.inl ⟨by rfl, ?_⟩) ?_ ?_
      rotate_left
      · intro w'
        go_simp
        with_reducible rfl
      rotate_left
      · simp only [Act.put, List.setIfInBounds_toArray, List.set_cons_zero, List.set_cons_succ, i64_w, i32_w]
        rfl
      refine pure_ (i := 3) (N := some 77) (v := ?_) (a' := ?_) #[true, false, true, true, false, false, false, false, false] rfl rfl (by kernel_rfl) (fun _ _ _ h => h) (Or.inl ⟨by rfl, ?_⟩) ?_ ?_
      rotate_left
      · intro w'
        go_simp
        with_reducible rfl
      rotate_left
      · simp only [Act.put, List.setIfInBounds_toArray, List.set_cons_zero, List.set_cons_succ, i64_w, i32_w]
        rfl
      refine take_ (i := 4) (N := some 78) (v := ?_) (a' := ?_) #[true, false, true, true, true, false, false, false, false] rfl rfl (by kernel_rfl) (fun _ _ _ h => h) (Or.inl ⟨by rfl, ?_⟩) hHeld ?_ ?_
      rotate_left
      · intro w' s0
        go_simp
        with_reducible rfl
      rotate_left
      · simp only [Act.put, List.setIfInBounds_toArray, List.set_cons_zero, List.set_cons_succ, i64_w, i32_w]
        rfl
      refine pure_ (i := 5) (N := some 79) (v := ?_) (a' := ?_) #[true, false, true, true, true, true, false, false, false] rfl rfl (by kernel_rfl) (fun _ _ _ h => h) (Or.inl ⟨by rfl, ?_⟩) ?_ ?_
      rotate_left
      · intro w'
        go_simp
        with_reducible rfl
      rotate_left
      · simp only [Act.put, List.setIfInBounds_toArray, List.set_cons_zero, List.set_cons_succ, i64_w, i32_w]
        rfl
      refine pure_ (i := 6) (N := some 80) (v := ?_) (a' := ?_) #[true, false, true, true, true, true, true, false, false] rfl rfl (by kernel_rfl) (fun _ _ _ h => h) (Or.inl ⟨by rfl, ?_⟩) ?_ ?_
      rotate_left
      · intro w'
        go_simp
        with_reducible rfl
      rotate_left
      · simp only [Act.put, List.setIfInBounds_toArray, List.set_cons_zero, List.set_cons_succ, i64_w, i32_w]
        rfl
      refine pure_ (i := 7) (N := some 81) (v := ?_) (a' := ?_) #[true, false, true, true, true, true, true, true, false] rfl rfl (by kernel_rfl) (fun _ _ _ h => h) (Or.inl ⟨by rfl, ?_⟩) ?_ ?_
      rotate_left
      · intro w'
        go_simp
        with_reducible rfl
      rotate_left
      · simp only [Act.put, List.setIfInBounds_toArray, List.set_cons_zero, List.set_cons_succ, i64_w, i32_w]
        rfl
      refine one_ (i := 1) (N := some 75) #[true, true, true, true, true, true, true, true, false] rfl rfl (by kernel_rfl) (by decide) (fun K hK => ?_)
      refine goes_ Try.func10 (by kernel_rfl) rfl #[.pointer (some ⟨g, 0, none⟩)] (by rfl) rfl rfl (by simp only [List.map_toArray, List.map_cons, List.map_nil]; rfl) ?_
      with_reducible refine (window_any g F _ HS3D.out).mono ?_
      rintro e w4 ⟨rfl, rfl⟩
      refine ⟨_, rfl, ?_⟩
      refine hK.out _ _ (hHeld) (fun hHeld => ?_)
      clear hK K
      refine norm_ (a' := ?_) ?_ ?_
      rotate_left
      · show Act.put _ (some 75) _ = _
        simp only [Act.put, List.setIfInBounds_toArray, List.set_cons_zero, List.set_cons_succ, i64_w, i32_w]
        rfl
      refine pure_ (i := 8) (N := some 82) (v := ?_) (a' := ?_) #[true, true, true, true, true, true, true, true, true] rfl rfl (by kernel_rfl) (fun _ _ _ h => h) (Or.inl ⟨by rfl, ?_⟩) ?_ ?_
      rotate_left
      · intro w'
        go_simp
        with_reducible rfl
      rotate_left
      · simp only [Act.put, List.setIfInBounds_toArray, List.set_cons_zero, List.set_cons_succ, i64_w, i32_w]
        rfl
      refine done_ (by kernel_rfl) ?_
      go_wp2_with fail
      go_roundw
      case rel => exact ⟨k + 1, F, N1, rfl, by go_num, by omega, by omega, HNN.out.1, HNN.out.2, HS3D, HI3, ⟨HT13.out.drew⟩⟩
      case measure => simp [intOf]; omega
    · have hbase : Below w.heap.size w wr := ((((Below.refl _ _).alloc (Nat.le_refl _) _).trans (HB.out.mono (by simp))).trans (hT.out.toBelow (by omega) (fun i hi => by omega)))
      have HBASE := Aside0.mk hbase
      have hX3 := hT.out.kept HX.out (by show ¬ w.heap.size = g; omega)
      have HX3 := Aside0.mk hX3
      have hwr : w.heap.size ≤ wr.heap.size := by have := hT.out.size; omega
      clear hbase hX3
      have hex : ¬ (k < n ∧ k < 100) := hlt
      have hN : 0 ≤ nw + 2000000 ∧ nw + 2000000 ≤ 1000000000 := by omega
      obtain ⟨s1, hs1, hb1, hw1, hw2, hf2, hb2⟩ := cut_hear hI.out hlh h1 h4 lost (nw + 2000000) hN.1 hN.2
      obtain ⟨s2, hs2⟩ : ∃ s2, s2 = (s1.hear 0 60000 true true 100000 (nw + 2000000 + 99999)).1 := ⟨_, rfl⟩
      rw [← hs2] at hw2 hf2 hb2
      have HS1 := Aside0.mk hs1
      have HB1 := Aside0.mk hb1
      have HW1 := Aside0.mk hw1
      have HW2 := Aside0.mk hw2
      have HF2 := Aside0.mk hf2
      have HS2 := Aside0.mk hs2
      have y0 := hI.out.b.w0
      have y1 := hI.out.b.w1
      clear hs1 hb1 hw1 hw2 hf2 hb2 hs2 hlt
      have hcase : (k < n ∧ ¬ k < 100) ∨ ¬ k < n := by omega
      rcases hcase with ⟨q1, q2⟩ | q1
      all_goals
        cases lost
        all_goals
          clear hex
          go_wp2_with fail
          refine (window_any g s _ hS.out).mono ?_
          rintro e w5 ⟨rfl, hw5⟩
          have hw5 := hw5.symm
          subst hw5
          go_wp2_with fail
          refine (hear_any g s 1200 0 100000 (nw + 2000000) _ _ _ hS.out hI.out.b.ok).mono ?_
          rintro e w6 ⟨rfl, hS6, hT6⟩
          have hS6' : ScIs w6 g s1 := by rw [HS1.out]; exact hS6
          have HS6 := Aside0.mk hS6'
          have HT6 := Aside0.mk hT6
          clear hS6 hS6' hT6
          go_wp2_with fail
          refine (window_any g s1 _ HS6.out).mono ?_
          rintro e w7 ⟨rfl, hw5⟩
          have hw5 := hw5.symm
          subst hw5
          go_wp2_with fail
          refine (hear_any g s1 0 60000 100000 (nw + 2000000 + 99999) true true _ HS6.out HB1.out.ok).mono ?_
          rintro e w8 ⟨rfl, hS8, hT8⟩
          have hS8' : ScIs w8 g s2 := by rw [HS2.out]; exact hS8
          have HS8 := Aside0.mk hS8'
          have hX8 := (HT6.out.trans hT8 (fun i hi => .inl hi)).kept HX3.out (by show ¬ w.heap.size = g; omega)
          have x2 := blk_cell hX8 2
          simp only [List.getElem?_toArray, List.getElem?_cons_zero, List.getElem?_cons_succ] at x2
          have HT8 := Aside0.mk hT8
          clear hS8 hS8' hX8 hT8
          first
            | have ew : min (max (s.win * 9 / 10) 3000) (max 3000 (hi / 8)) = s1.win := (by have := HW1.out; simpa using this.symm)
            | have ew : min (max (s.win * 4 / 5) 3000) (max 3000 (hi / 8)) = s1.win := (by have := HW1.out; simpa using this.symm)
          go_wp2_with fail
          clear ew
          refine (fast_any g s2 _ HS8.out).mono ?_
          rintro e w9 ⟨rfl, hw9⟩
          have hw9 := hw9.symm
          subst hw9
          rw [HF2.out]
          go_wp2_with fail
          refine (window_any g s2 _ HS8.out).mono ?_
          rintro e w9 ⟨rfl, hw9⟩
          have hw9 := hw9.symm
          subst hw9
          rw [HW2.out]
          go_wp2_with fail
          refine (wakes_any _).mono ?_
          rintro e w9 ⟨rfl, hB9⟩
          go_wp2_with fail
          go_ret
          have hz6 := HT6.out.size
          have hz8 := HT8.out.size
          exact ⟨rfl, ((HBASE.out.trans (HT6.out.toBelow hwr (fun i hi => by omega))).trans (HT8.out.toBelow (by omega) (fun i hi => by omega))).trans (hB9.mono (by omega))⟩
set_option maxHeartbeats 1000000 in
set_option maxRecDepth 100000 in
theorem cuts_bad (start lo hi : Int) (A : Option Addr) (n c : Nat) (lost : Bool) (w : World) (hbad : goodSc start lo hi = false) :
    Calls Try.prog 3 #[.agg #[.int .i64 start, .int .i64 lo, .int .i64 hi], .slice A n c, .bool lost] w fun e w' => e = .returned (.bool true) ∧ Below w.heap.size w w' := by
  have HG := Aside0.mk hbad
  clear hbad
  go_enter Try.func3, Try.ntmps3
  go_wp2_with fail
  refine (scnew_bad start lo hi _ HG.out).mono ?_
  rintro e w1 ⟨rfl, rfl⟩
  go_wp2_with fail
  refine (wakes_any _).mono ?_
  rintro e w5 ⟨rfl, hB5⟩
  go_wp2_with fail
  go_ret
  exact ⟨rfl, ((Below.refl _ _).alloc (Nat.le_refl _) _).trans (hB5.mono (by simp))⟩
theorem cuts_true (start lo hi : Int) (A : Option Addr) (n c : Nat) (lost : Bool) (w : World) (_ : I64 start) (_ : I64 lo) (_ : I64 hi) (h1 : n ≤ c) (h2 : c ≤ maxLen) (hl : ∀ i, i < n → ∃ (ad : Addr) (c0 : Int) (c1 : Int) (c2 : Int) (c3 : Bool) (c4 : Bool) (c5 : Int) (c6 : Int), A = some ad ∧ w.cell? (ad.add (i * 7 + 0)) = some (.int .i64 c0) ∧ I64 c0 ∧ w.cell? (ad.add (i * 7 + 1)) = some (.int .i64 c1) ∧ I64 c1 ∧ w.cell? (ad.add (i * 7 + 2)) = some (.int .i64 c2) ∧ I64 c2 ∧ w.cell? (ad.add (i * 7 + 3)) = some (.bool c3) ∧ w.cell? (ad.add (i * 7 + 4)) = some (.bool c4) ∧ w.cell? (ad.add (i * 7 + 5)) = some (.int .i64 c5) ∧ I64 c5 ∧ w.cell? (ad.add (i * 7 + 6)) = some (.int .i64 c6) ∧ I64 c6) :
    Calls Try.prog 3 #[.agg #[.int .i64 start, .int .i64 lo, .int .i64 hi], .slice A n c, .bool lost] w fun e w' => e = .returned (.bool true) ∧ Below w.heap.size w w' := by
  cases hg : goodSc start lo hi
  · exact cuts_bad start lo hi A n c lost w hg
  · exact cuts_good start lo hi A n c lost w hg (by unfold maxLen at h2; omega) (stepsAt_of hl)
end Go.Proofs.Ythlgndgacmalaaa.B
