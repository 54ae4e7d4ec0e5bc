/-
  The third controller of the reference: a whole report. Walk over the reference.
-/
import Derived.Test.YthlgndgacmalaaaRs
namespace Go.Proofs.Ythlgndgacmalaaa.B
open Go.RowKit Go.Proofs.YthlgndgacmalaaaW.PrintWords Go.Proofs.YthlgndgacmalaaaW.PrintLast Go.Proofs.YthlgndgacmalaaaW.PrintMore
set_option linter.unusedVariables false
set_option linter.unusedSimpArgs false
set_option maxHeartbeats 16000000 in
set_option maxRecDepth 100000 in
theorem rhear_walk (g : Nat) (s : Sc) (acked delay rtt now A D R N V1 V2 V3 OFF V4 V5 V6 V7 BY : Int) (lost ecn : Bool) (w : World) (F : Sc × Int) (hs : RscIs w g s) (hok : ScOk s) (hR : I64 R) (hA : I64 A) (hD0 : 0 ≤ D) (hD1 : D ≤ 1000000)
    (CA : Aside0 (∀ w, Calls Try.prog 28 #[.int .i64 acked, .int .i64 0, .int .i64 16777216] w fun e w' => e = .returned (.int .i64 A) ∧ w' = w))
    (CD : Aside0 (∀ w, Calls Try.prog 28 #[.int .i64 delay, .int .i64 0, .int .i64 1000000] w fun e w' => e = .returned (.int .i64 D) ∧ w' = w))
    (CR : Aside0 (∀ w, Calls Try.prog 28 #[.int .i64 rtt, .int .i64 1000, .int .i64 1000000] w fun e w' => e = .returned (.int .i64 R) ∧ w' = w))
    (CN : Aside0 (∀ w, Calls Try.prog 28 #[.int .i64 now, .int .i64 0, .int .i64 1125899906842624] w fun e w' => e = .returned (.int .i64 N) ∧ w' = w))
    (CF1 : Aside0 (∀ w, Calls Try.prog 30 #[.int .i64 (60000 - D)] w fun e w' => e = .returned (.int .i64 V1) ∧ Below w.heap.size w w'))
    (CF2 : Aside0 (∀ w, Calls Try.prog 30 #[.int .i64 60000] w fun e w' => e = .returned (.int .i64 V2) ∧ Below w.heap.size w w'))
    (CF3 : Aside0 (∀ w, Calls Try.prog 29 #[.int .i64 V1, .int .i64 V2] w fun e w' => e = .returned (.int .i64 V3) ∧ Below w.heap.size w w'))
    (EO : max (-4294967296) V3 = OFF)
    (CS1 : Aside0 (∀ w, Calls Try.prog 31 #[.int .i64 A, .int .i64 1200, .int .i64 s.win, .int .i64 1] w fun e w' => e = .returned (.int .i64 V4) ∧ Below w.heap.size w w'))
    (CS2 : Aside0 (∀ w, Calls Try.prog 30 #[.int .i64 V4] w fun e w' => e = .returned (.int .i64 V5) ∧ Below w.heap.size w w'))
    (CS3 : Aside0 (∀ w, Calls Try.prog 33 #[.int .i64 OFF, .int .i64 V5] w fun e w' => e = .returned (.int .i64 V6) ∧ Below w.heap.size w w'))
    (CS4 : Aside0 (∀ w, Calls Try.prog 32 #[.int .i64 V6] w fun e w' => e = .returned (.int .i64 V7) ∧ Below w.heap.size w w'))
    (EBY : Aside0 (BY = if OFF < 0 then wrap64 (V7 * 2) else V7)) (HBY : Aside0 (∀ fast old cut : Bool, ∀ was cutAt : Int, Sc.by_ ⟨s.rate, s.lo, s.hi, s.win, fast, old, was, cut, cutAt⟩ A D = BY))
    (HF : Aside0 ((s.main A D lost ecn R N).done R = F)) :
    Calls Try.prog 17 #[.pointer (some ⟨g, 0, none⟩), .int .i64 acked, .int .i64 delay, .bool lost, .bool ecn, .int .i64 rtt, .int .i64 now] w (RHearQ g w F) := by
  obtain ⟨rate, mn, mx, win, fast, old, was, cut, cutAt⟩ := s
  dsimp only at CS1 HBY
  have HS0 := Aside0.mk hs
  have HO := Aside0.mk hok
  have HRR := Aside0.mk hR
  clear hs hok
  go_enter Try.func17, Try.ntmps17
  generalize hBK : Code.block 0 _ = BK
  have HBK := Aside0.mk hBK
  clear hBK
  go_wp2_with fail
  refine (CA.out _).mono ?_
  rintro e w1 ⟨rfl, hw⟩
  obtain rfl : w = w1 := hw.symm
  go_wp2_with fail
  refine (CD.out _).mono ?_
  rintro e w1 ⟨rfl, hw⟩
  obtain rfl : w = w1 := hw.symm
  go_wp2_with fail
  refine (CR.out _).mono ?_
  rintro e w1 ⟨rfl, hw⟩
  obtain rfl : w = w1 := hw.symm
  go_wp2_with fail
  refine (CN.out _).mono ?_
  rintro e w1 ⟨rfl, hw⟩
  obtain rfl : w = w1 := hw.symm
  go_wp2_with fail
  refine (CF1.out _).mono ?_
  rintro e w1 ⟨rfl, hB1⟩
  go_wp2_with fail
  refine (CF2.out _).mono ?_
  rintro e w2 ⟨rfl, hB2⟩
  go_wp2_with fail
  refine (CF3.out _).mono ?_
  rintro e w3 ⟨rfl, hB3⟩
  have HB := (hB1.trans (hB2.mono hB1.size)).trans (hB3.mono (Nat.le_trans hB1.size hB2.size))
  have hlt0 : g < w.heap.size := blk_lt HS0.out
  have hs := (HB.block g hlt0).trans HS0.out
  have HT := Aside0.mk ((Touch.refl (fun k => k = g) w).below HB)
  clear hB1 hB2 hB3 HB
  have hlt := blk_lt hs
  have h0 := blk_cell hs 0
  have h1 := blk_cell hs 1
  have h2 := blk_cell hs 2
  have h3 := blk_cell hs 3
  have h4 := blk_cell hs 4
  have h5 := blk_cell hs 5
  have h6 := blk_cell hs 6
  have h7 := blk_cell hs 7
  have h8 := blk_cell hs 8
  simp only [List.getElem?_toArray, List.getElem?_cons_zero, List.getElem?_cons_succ] at h0 h1 h2 h3 h4 h5 h6 h7 h8
  have f0 := blk_frozen hs 0
  have f4 := blk_frozen hs 4
  have f6 := blk_frozen hs 6
  have f7 := blk_frozen hs 7
  have f8 := blk_frozen hs 8
  have HS := Aside0.mk hs
  clear hs
  go_wp2_with fail
  refine Code.wp_mono (Q := RHearE g w R F) (fun e a' w' hq => ?_) ?_
  · obtain ⟨rfl, hJ⟩ := hq
    rename_i K hK
    exact hK _ _ (rhear_tail g w R F HRR.out _ rfl _ _ hJ)
  rw [← HBK.out]
  clear EO CA CD CR CN CF1 CF2 CF3
  rename_i K hK
  clear hK
  clear K
  have hways : (lost = true ∧ cut = false) ∨ (lost = true ∧ cut = true ∧ R ≤ wrap64 (N - cutAt)) ∨ (lost = true ∧ cut = true ∧ ¬ R ≤ wrap64 (N - cutAt)) ∨ (lost = false ∧ ecn = true ∧ cut = false) ∨ (lost = false ∧ ecn = true ∧ cut = true ∧ R ≤ wrap64 (N - cutAt)) ∨ (lost = false ∧ ecn = true ∧ cut = true ∧ ¬ R ≤ wrap64 (N - cutAt)) ∨ (lost = false ∧ ecn = false) := by
    by_cases hq : R ≤ wrap64 (N - cutAt) <;> cases lost <;> cases ecn <;> cases cut <;> simp [hq]
  rcases hways with hway | hway | hway | hway | hway | hway | hway
  · obtain ⟨rfl, rfl⟩ := hway
    have HC : Aside0 (Sc.cuts ⟨rate, mn, mx, win, fast, old, was, false, cutAt⟩ true ecn R N = true) := ⟨by simp [Sc.cuts, ]⟩
    go_wp2_with fail
    refine (rdo_any win 4 5 1 HO.out.2.2.2 (i64_const (by omega) (by omega)) (i64_const (by omega) (by omega)) (i64_const (by omega) (by omega)) _).mono ?_
    rintro e w2 ⟨rfl, hB⟩
    have HM : I64 (mdo win 4 5 1) := mdo_range _ _ _ _
    generalize hM : mdo win 4 5 1 = M at *
    have EM := Aside0.mk hM
    have IM := Aside0.mk HM
    have H2 := (hB.block g hlt).trans HS.out
    have T2 := Aside0.mk (HT.out.below hB)
    clear hM HM h0 h1 h2 h3 h4 h5 h6 h7 h8 f0 f4 f6 f7 f8 hB
    have n0 := blk_cell H2 0
    have n1 := blk_cell H2 1
    have n2 := blk_cell H2 2
    have n3 := blk_cell H2 3
    have n4 := blk_cell H2 4
    have n5 := blk_cell H2 5
    have n6 := blk_cell H2 6
    have n7 := blk_cell H2 7
    have n8 := blk_cell H2 8
    simp only [List.getElem?_toArray, List.getElem?_cons_zero, List.getElem?_cons_succ] at n0 n1 n2 n3 n4 n5 n6 n7 n8
    have f0 := blk_frozen H2 0
    have f4 := blk_frozen H2 4
    have f6 := blk_frozen H2 6
    have f7 := blk_frozen H2 7
    have f8 := blk_frozen H2 8
    have HH2 := Aside0.mk H2
    clear H2
    go_wp2_with fail
    refine ⟨rfl, rhearJ_mk ⟨rate, mn, mx, M, false, old, N, true, N⟩ rfl ?_ ⟨HO.out.1, HO.out.2.1, HO.out.2.2.1, IM.out⟩ ?_ ?_⟩
    · rw [← HF.out, Sc.main, if_pos HC.out]
      simp [EM.out]
    · exact (blk_set (blk_set (blk_set (blk_set (blk_set HH2.out 0 _) 6 _) 7 _) 8 _) 4 _).trans (by simp)
    · exact ((((T2.out.setCell (p := ⟨g, _, none⟩) (.inl rfl) _).setCell (p := ⟨g, _, none⟩) (.inl rfl) _).setCell (p := ⟨g, _, none⟩) (.inl rfl) _).setCell (p := ⟨g, _, none⟩) (.inl rfl) _).setCell (p := ⟨g, _, none⟩) (.inl rfl) _
  · obtain ⟨rfl, rfl, hq⟩ := hway
    have HC : Aside0 (Sc.cuts ⟨rate, mn, mx, win, fast, old, was, true, cutAt⟩ true ecn R N = true) := ⟨by simp [Sc.cuts, hq]⟩
    go_wp2_with fail
    refine (rdo_any win 4 5 1 HO.out.2.2.2 (i64_const (by omega) (by omega)) (i64_const (by omega) (by omega)) (i64_const (by omega) (by omega)) _).mono ?_
    rintro e w2 ⟨rfl, hB⟩
    have HM : I64 (mdo win 4 5 1) := mdo_range _ _ _ _
    generalize hM : mdo win 4 5 1 = M at *
    have EM := Aside0.mk hM
    have IM := Aside0.mk HM
    have H2 := (hB.block g hlt).trans HS.out
    have T2 := Aside0.mk (HT.out.below hB)
    clear hM HM h0 h1 h2 h3 h4 h5 h6 h7 h8 f0 f4 f6 f7 f8 hB
    have n0 := blk_cell H2 0
    have n1 := blk_cell H2 1
    have n2 := blk_cell H2 2
    have n3 := blk_cell H2 3
    have n4 := blk_cell H2 4
    have n5 := blk_cell H2 5
    have n6 := blk_cell H2 6
    have n7 := blk_cell H2 7
    have n8 := blk_cell H2 8
    simp only [List.getElem?_toArray, List.getElem?_cons_zero, List.getElem?_cons_succ] at n0 n1 n2 n3 n4 n5 n6 n7 n8
    have f0 := blk_frozen H2 0
    have f4 := blk_frozen H2 4
    have f6 := blk_frozen H2 6
    have f7 := blk_frozen H2 7
    have f8 := blk_frozen H2 8
    have HH2 := Aside0.mk H2
    clear H2
    go_wp2_with fail
    refine ⟨rfl, rhearJ_mk ⟨rate, mn, mx, M, false, old, N, true, N⟩ rfl ?_ ⟨HO.out.1, HO.out.2.1, HO.out.2.2.1, IM.out⟩ ?_ ?_⟩
    · rw [← HF.out, Sc.main, if_pos HC.out]
      simp [EM.out]
    · exact (blk_set (blk_set (blk_set (blk_set (blk_set HH2.out 0 _) 6 _) 7 _) 8 _) 4 _).trans (by simp)
    · exact ((((T2.out.setCell (p := ⟨g, _, none⟩) (.inl rfl) _).setCell (p := ⟨g, _, none⟩) (.inl rfl) _).setCell (p := ⟨g, _, none⟩) (.inl rfl) _).setCell (p := ⟨g, _, none⟩) (.inl rfl) _).setCell (p := ⟨g, _, none⟩) (.inl rfl) _
  · obtain ⟨rfl, rfl, hq⟩ := hway
    have HC : Aside0 (¬ (Sc.cuts ⟨rate, mn, mx, win, fast, old, was, true, cutAt⟩ true ecn R N = true)) := ⟨by simp [Sc.cuts, hq]⟩
    cases fast
    · go_wp2_with fail
      refine (CS1.out _).mono ?_
      rintro e w2 ⟨rfl, hB1⟩
      go_wp2_with fail
      refine (CS2.out _).mono ?_
      rintro e w3 ⟨rfl, hB2⟩
      go_wp2_with fail
      refine (CS3.out _).mono ?_
      rintro e w4 ⟨rfl, hB3⟩
      go_wp2_with fail
      refine (CS4.out _).mono ?_
      rintro e w5 ⟨rfl, hB4⟩
      have HB := ((hB1.trans (hB2.mono hB1.size)).trans (hB3.mono (Nat.le_trans hB1.size hB2.size))).trans (hB4.mono (Nat.le_trans (Nat.le_trans hB1.size hB2.size) hB3.size))
      have H2 := (HB.block g hlt).trans HS.out
      have T2 := Aside0.mk (HT.out.below HB)
      clear h0 h1 h2 h3 h4 h5 h6 h7 h8 f0 f4 f6 f7 f8 hB1 hB2 hB3 hB4 HB
      have n0 := blk_cell H2 0
      have n1 := blk_cell H2 1
      have n2 := blk_cell H2 2
      have n3 := blk_cell H2 3
      have n4 := blk_cell H2 4
      have n5 := blk_cell H2 5
      have n6 := blk_cell H2 6
      have n7 := blk_cell H2 7
      have n8 := blk_cell H2 8
      simp only [List.getElem?_toArray, List.getElem?_cons_zero, List.getElem?_cons_succ] at n0 n1 n2 n3 n4 n5 n6 n7 n8
      have f0 := blk_frozen H2 0
      have f4 := blk_frozen H2 4
      have HH2 := Aside0.mk H2
      clear H2
      by_cases hoff : OFF < 0
      · have eb := EBY.out
        rw [if_pos hoff] at eb
        by_cases hd : D < 7500
        · by_cases hn : 5000000 ≤ wrap64 (N - was)
          · go_wp2_with fail
            refine ⟨rfl, rhearJ_mk ⟨rate, mn, mx, wrap64 (win + BY), true, old, was, true, cutAt⟩ rfl ?_ ⟨HO.out.1, HO.out.2.1, HO.out.2.2.1, wrap64_i64 _⟩ ?_ ?_⟩
            · rw [← HF.out, Sc.main, if_neg HC.out]
              simp only [Bool.false_eq_true, ↓reduceIte, Sc.slow]
              rw [HBY.out]
              rw [if_pos hd, if_pos hn]
            · exact (blk_set (blk_set HH2.out 0 _) 4 _).trans (by rw [eb]; simp)
            · exact (T2.out.setCell (p := ⟨g, _, none⟩) (.inl rfl) _).setCell (p := ⟨g, _, none⟩) (.inl rfl) _
          · go_wp2_with fail
            refine ⟨rfl, rhearJ_mk ⟨rate, mn, mx, wrap64 (win + BY), false, old, was, true, cutAt⟩ rfl ?_ ⟨HO.out.1, HO.out.2.1, HO.out.2.2.1, wrap64_i64 _⟩ ?_ ?_⟩
            · rw [← HF.out, Sc.main, if_neg HC.out]
              simp only [Bool.false_eq_true, ↓reduceIte, Sc.slow]
              rw [HBY.out]
              rw [if_pos hd, if_neg (by omega)]
            · exact (blk_set HH2.out 0 _).trans (by rw [eb]; simp)
            · exact T2.out.setCell (p := ⟨g, _, none⟩) (.inl rfl) _
        · go_wp2_with fail
          refine ⟨rfl, rhearJ_mk ⟨rate, mn, mx, wrap64 (win + BY), false, old, was, true, cutAt⟩ rfl ?_ ⟨HO.out.1, HO.out.2.1, HO.out.2.2.1, wrap64_i64 _⟩ ?_ ?_⟩
          · rw [← HF.out, Sc.main, if_neg HC.out]
            simp only [Bool.false_eq_true, ↓reduceIte, Sc.slow]
            rw [HBY.out]
            rw [if_neg (by omega)]
          · exact (blk_set HH2.out 0 _).trans (by rw [eb]; simp)
          · exact T2.out.setCell (p := ⟨g, _, none⟩) (.inl rfl) _
      · have eb := EBY.out
        rw [if_neg hoff] at eb
        by_cases hd : D < 7500
        · by_cases hn : 5000000 ≤ wrap64 (N - was)
          · go_wp2_with fail
            refine ⟨rfl, rhearJ_mk ⟨rate, mn, mx, wrap64 (win + BY), true, old, was, true, cutAt⟩ rfl ?_ ⟨HO.out.1, HO.out.2.1, HO.out.2.2.1, wrap64_i64 _⟩ ?_ ?_⟩
            · rw [← HF.out, Sc.main, if_neg HC.out]
              simp only [Bool.false_eq_true, ↓reduceIte, Sc.slow]
              rw [HBY.out]
              rw [if_pos hd, if_pos hn]
            · exact (blk_set (blk_set HH2.out 0 _) 4 _).trans (by rw [eb]; simp)
            · exact (T2.out.setCell (p := ⟨g, _, none⟩) (.inl rfl) _).setCell (p := ⟨g, _, none⟩) (.inl rfl) _
          · go_wp2_with fail
            refine ⟨rfl, rhearJ_mk ⟨rate, mn, mx, wrap64 (win + BY), false, old, was, true, cutAt⟩ rfl ?_ ⟨HO.out.1, HO.out.2.1, HO.out.2.2.1, wrap64_i64 _⟩ ?_ ?_⟩
            · rw [← HF.out, Sc.main, if_neg HC.out]
              simp only [Bool.false_eq_true, ↓reduceIte, Sc.slow]
              rw [HBY.out]
              rw [if_pos hd, if_neg (by omega)]
            · exact (blk_set HH2.out 0 _).trans (by rw [eb]; simp)
            · exact T2.out.setCell (p := ⟨g, _, none⟩) (.inl rfl) _
        · go_wp2_with fail
          refine ⟨rfl, rhearJ_mk ⟨rate, mn, mx, wrap64 (win + BY), false, old, was, true, cutAt⟩ rfl ?_ ⟨HO.out.1, HO.out.2.1, HO.out.2.2.1, wrap64_i64 _⟩ ?_ ?_⟩
          · rw [← HF.out, Sc.main, if_neg HC.out]
            simp only [Bool.false_eq_true, ↓reduceIte, Sc.slow]
            rw [HBY.out]
            rw [if_neg (by omega)]
          · exact (blk_set HH2.out 0 _).trans (by rw [eb]; simp)
          · exact T2.out.setCell (p := ⟨g, _, none⟩) (.inl rfl) _
    · by_cases hd : 15000 < D
      · go_wp2_with fail
        refine ⟨rfl, rhearJ_mk ⟨rate, mn, mx, win, false, old, N, true, cutAt⟩ rfl ?_ HO.out ?_ ?_⟩
        · rw [← HF.out, Sc.main, if_neg HC.out]
          simp [hd]
        · exact (blk_set (blk_set HS.out 8 _) 4 _).trans (by simp)
        · exact (HT.out.setCell (p := ⟨g, _, none⟩) (.inl rfl) _).setCell (p := ⟨g, _, none⟩) (.inl rfl) _
      · go_wp2_with fail
        refine ⟨rfl, rhearJ_mk ⟨rate, mn, mx, wrap64 (win + A), true, old, N, true, cutAt⟩ rfl ?_ ⟨HO.out.1, HO.out.2.1, HO.out.2.2.1, wrap64_i64 _⟩ ?_ ?_⟩
        · rw [← HF.out, Sc.main, if_neg HC.out]
          simp [show ¬ 15000 < D by omega]
        · exact (blk_set (blk_set HS.out 8 _) 0 _).trans (by simp)
        · exact (HT.out.setCell (p := ⟨g, _, none⟩) (.inl rfl) _).setCell (p := ⟨g, _, none⟩) (.inl rfl) _
  · obtain ⟨rfl, rfl, rfl⟩ := hway
    have HC : Aside0 (Sc.cuts ⟨rate, mn, mx, win, fast, old, was, false, cutAt⟩ false true R N = true) := ⟨by simp [Sc.cuts, ]⟩
    go_wp2_with fail
    refine (rdo_any win 9 10 1 HO.out.2.2.2 (i64_const (by omega) (by omega)) (i64_const (by omega) (by omega)) (i64_const (by omega) (by omega)) _).mono ?_
    rintro e w2 ⟨rfl, hB⟩
    have HM : I64 (mdo win 9 10 1) := mdo_range _ _ _ _
    generalize hM : mdo win 9 10 1 = M at *
    have EM := Aside0.mk hM
    have IM := Aside0.mk HM
    have H2 := (hB.block g hlt).trans HS.out
    have T2 := Aside0.mk (HT.out.below hB)
    clear hM HM h0 h1 h2 h3 h4 h5 h6 h7 h8 f0 f4 f6 f7 f8 hB
    have n0 := blk_cell H2 0
    have n1 := blk_cell H2 1
    have n2 := blk_cell H2 2
    have n3 := blk_cell H2 3
    have n4 := blk_cell H2 4
    have n5 := blk_cell H2 5
    have n6 := blk_cell H2 6
    have n7 := blk_cell H2 7
    have n8 := blk_cell H2 8
    simp only [List.getElem?_toArray, List.getElem?_cons_zero, List.getElem?_cons_succ] at n0 n1 n2 n3 n4 n5 n6 n7 n8
    have f0 := blk_frozen H2 0
    have f4 := blk_frozen H2 4
    have f6 := blk_frozen H2 6
    have f7 := blk_frozen H2 7
    have f8 := blk_frozen H2 8
    have HH2 := Aside0.mk H2
    clear H2
    go_wp2_with fail
    refine ⟨rfl, rhearJ_mk ⟨rate, mn, mx, M, false, old, N, true, N⟩ rfl ?_ ⟨HO.out.1, HO.out.2.1, HO.out.2.2.1, IM.out⟩ ?_ ?_⟩
    · rw [← HF.out, Sc.main, if_pos HC.out]
      simp [EM.out]
    · exact (blk_set (blk_set (blk_set (blk_set (blk_set HH2.out 0 _) 6 _) 7 _) 8 _) 4 _).trans (by simp)
    · exact ((((T2.out.setCell (p := ⟨g, _, none⟩) (.inl rfl) _).setCell (p := ⟨g, _, none⟩) (.inl rfl) _).setCell (p := ⟨g, _, none⟩) (.inl rfl) _).setCell (p := ⟨g, _, none⟩) (.inl rfl) _).setCell (p := ⟨g, _, none⟩) (.inl rfl) _
  · obtain ⟨rfl, rfl, rfl, hq⟩ := hway
    have HC : Aside0 (Sc.cuts ⟨rate, mn, mx, win, fast, old, was, true, cutAt⟩ false true R N = true) := ⟨by simp [Sc.cuts, hq]⟩
    go_wp2_with fail
    refine (rdo_any win 9 10 1 HO.out.2.2.2 (i64_const (by omega) (by omega)) (i64_const (by omega) (by omega)) (i64_const (by omega) (by omega)) _).mono ?_
    rintro e w2 ⟨rfl, hB⟩
    have HM : I64 (mdo win 9 10 1) := mdo_range _ _ _ _
    generalize hM : mdo win 9 10 1 = M at *
    have EM := Aside0.mk hM
    have IM := Aside0.mk HM
    have H2 := (hB.block g hlt).trans HS.out
    have T2 := Aside0.mk (HT.out.below hB)
    clear hM HM h0 h1 h2 h3 h4 h5 h6 h7 h8 f0 f4 f6 f7 f8 hB
    have n0 := blk_cell H2 0
    have n1 := blk_cell H2 1
    have n2 := blk_cell H2 2
    have n3 := blk_cell H2 3
    have n4 := blk_cell H2 4
    have n5 := blk_cell H2 5
    have n6 := blk_cell H2 6
    have n7 := blk_cell H2 7
    have n8 := blk_cell H2 8
    simp only [List.getElem?_toArray, List.getElem?_cons_zero, List.getElem?_cons_succ] at n0 n1 n2 n3 n4 n5 n6 n7 n8
    have f0 := blk_frozen H2 0
    have f4 := blk_frozen H2 4
    have f6 := blk_frozen H2 6
    have f7 := blk_frozen H2 7
    have f8 := blk_frozen H2 8
    have HH2 := Aside0.mk H2
    clear H2
    go_wp2_with fail
    refine ⟨rfl, rhearJ_mk ⟨rate, mn, mx, M, false, old, N, true, N⟩ rfl ?_ ⟨HO.out.1, HO.out.2.1, HO.out.2.2.1, IM.out⟩ ?_ ?_⟩
    · rw [← HF.out, Sc.main, if_pos HC.out]
      simp [EM.out]
    · exact (blk_set (blk_set (blk_set (blk_set (blk_set HH2.out 0 _) 6 _) 7 _) 8 _) 4 _).trans (by simp)
    · exact ((((T2.out.setCell (p := ⟨g, _, none⟩) (.inl rfl) _).setCell (p := ⟨g, _, none⟩) (.inl rfl) _).setCell (p := ⟨g, _, none⟩) (.inl rfl) _).setCell (p := ⟨g, _, none⟩) (.inl rfl) _).setCell (p := ⟨g, _, none⟩) (.inl rfl) _
  · obtain ⟨rfl, rfl, rfl, hq⟩ := hway
    have HC : Aside0 (¬ (Sc.cuts ⟨rate, mn, mx, win, fast, old, was, true, cutAt⟩ false true R N = true)) := ⟨by simp [Sc.cuts, hq]⟩
    cases fast
    · go_wp2_with fail
      refine (CS1.out _).mono ?_
      rintro e w2 ⟨rfl, hB1⟩
      go_wp2_with fail
      refine (CS2.out _).mono ?_
      rintro e w3 ⟨rfl, hB2⟩
      go_wp2_with fail
      refine (CS3.out _).mono ?_
      rintro e w4 ⟨rfl, hB3⟩
      go_wp2_with fail
      refine (CS4.out _).mono ?_
      rintro e w5 ⟨rfl, hB4⟩
      have HB := ((hB1.trans (hB2.mono hB1.size)).trans (hB3.mono (Nat.le_trans hB1.size hB2.size))).trans (hB4.mono (Nat.le_trans (Nat.le_trans hB1.size hB2.size) hB3.size))
      have H2 := (HB.block g hlt).trans HS.out
      have T2 := Aside0.mk (HT.out.below HB)
      clear h0 h1 h2 h3 h4 h5 h6 h7 h8 f0 f4 f6 f7 f8 hB1 hB2 hB3 hB4 HB
      have n0 := blk_cell H2 0
      have n1 := blk_cell H2 1
      have n2 := blk_cell H2 2
      have n3 := blk_cell H2 3
      have n4 := blk_cell H2 4
      have n5 := blk_cell H2 5
      have n6 := blk_cell H2 6
      have n7 := blk_cell H2 7
      have n8 := blk_cell H2 8
      simp only [List.getElem?_toArray, List.getElem?_cons_zero, List.getElem?_cons_succ] at n0 n1 n2 n3 n4 n5 n6 n7 n8
      have f0 := blk_frozen H2 0
      have f4 := blk_frozen H2 4
      have HH2 := Aside0.mk H2
      clear H2
      by_cases hoff : OFF < 0
      · have eb := EBY.out
        rw [if_pos hoff] at eb
        by_cases hd : D < 7500
        · by_cases hn : 5000000 ≤ wrap64 (N - was)
          · go_wp2_with fail
            refine ⟨rfl, rhearJ_mk ⟨rate, mn, mx, wrap64 (win + BY), true, old, was, true, cutAt⟩ rfl ?_ ⟨HO.out.1, HO.out.2.1, HO.out.2.2.1, wrap64_i64 _⟩ ?_ ?_⟩
            · rw [← HF.out, Sc.main, if_neg HC.out]
              simp only [Bool.false_eq_true, ↓reduceIte, Sc.slow]
              rw [HBY.out]
              rw [if_pos hd, if_pos hn]
            · exact (blk_set (blk_set HH2.out 0 _) 4 _).trans (by rw [eb]; simp)
            · exact (T2.out.setCell (p := ⟨g, _, none⟩) (.inl rfl) _).setCell (p := ⟨g, _, none⟩) (.inl rfl) _
          · go_wp2_with fail
            refine ⟨rfl, rhearJ_mk ⟨rate, mn, mx, wrap64 (win + BY), false, old, was, true, cutAt⟩ rfl ?_ ⟨HO.out.1, HO.out.2.1, HO.out.2.2.1, wrap64_i64 _⟩ ?_ ?_⟩
            · rw [← HF.out, Sc.main, if_neg HC.out]
              simp only [Bool.false_eq_true, ↓reduceIte, Sc.slow]
              rw [HBY.out]
              rw [if_pos hd, if_neg (by omega)]
            · exact (blk_set HH2.out 0 _).trans (by rw [eb]; simp)
            · exact T2.out.setCell (p := ⟨g, _, none⟩) (.inl rfl) _
        · go_wp2_with fail
          refine ⟨rfl, rhearJ_mk ⟨rate, mn, mx, wrap64 (win + BY), false, old, was, true, cutAt⟩ rfl ?_ ⟨HO.out.1, HO.out.2.1, HO.out.2.2.1, wrap64_i64 _⟩ ?_ ?_⟩
          · rw [← HF.out, Sc.main, if_neg HC.out]
            simp only [Bool.false_eq_true, ↓reduceIte, Sc.slow]
            rw [HBY.out]
            rw [if_neg (by omega)]
          · exact (blk_set HH2.out 0 _).trans (by rw [eb]; simp)
          · exact T2.out.setCell (p := ⟨g, _, none⟩) (.inl rfl) _
      · have eb := EBY.out
        rw [if_neg hoff] at eb
        by_cases hd : D < 7500
        · by_cases hn : 5000000 ≤ wrap64 (N - was)
          · go_wp2_with fail
            refine ⟨rfl, rhearJ_mk ⟨rate, mn, mx, wrap64 (win + BY), true, old, was, true, cutAt⟩ rfl ?_ ⟨HO.out.1, HO.out.2.1, HO.out.2.2.1, wrap64_i64 _⟩ ?_ ?_⟩
            · rw [← HF.out, Sc.main, if_neg HC.out]
              simp only [Bool.false_eq_true, ↓reduceIte, Sc.slow]
              rw [HBY.out]
              rw [if_pos hd, if_pos hn]
            · exact (blk_set (blk_set HH2.out 0 _) 4 _).trans (by rw [eb]; simp)
            · exact (T2.out.setCell (p := ⟨g, _, none⟩) (.inl rfl) _).setCell (p := ⟨g, _, none⟩) (.inl rfl) _
          · go_wp2_with fail
            refine ⟨rfl, rhearJ_mk ⟨rate, mn, mx, wrap64 (win + BY), false, old, was, true, cutAt⟩ rfl ?_ ⟨HO.out.1, HO.out.2.1, HO.out.2.2.1, wrap64_i64 _⟩ ?_ ?_⟩
            · rw [← HF.out, Sc.main, if_neg HC.out]
              simp only [Bool.false_eq_true, ↓reduceIte, Sc.slow]
              rw [HBY.out]
              rw [if_pos hd, if_neg (by omega)]
            · exact (blk_set HH2.out 0 _).trans (by rw [eb]; simp)
            · exact T2.out.setCell (p := ⟨g, _, none⟩) (.inl rfl) _
        · go_wp2_with fail
          refine ⟨rfl, rhearJ_mk ⟨rate, mn, mx, wrap64 (win + BY), false, old, was, true, cutAt⟩ rfl ?_ ⟨HO.out.1, HO.out.2.1, HO.out.2.2.1, wrap64_i64 _⟩ ?_ ?_⟩
          · rw [← HF.out, Sc.main, if_neg HC.out]
            simp only [Bool.false_eq_true, ↓reduceIte, Sc.slow]
            rw [HBY.out]
            rw [if_neg (by omega)]
          · exact (blk_set HH2.out 0 _).trans (by rw [eb]; simp)
          · exact T2.out.setCell (p := ⟨g, _, none⟩) (.inl rfl) _
    · by_cases hd : 15000 < D
      · go_wp2_with fail
        refine ⟨rfl, rhearJ_mk ⟨rate, mn, mx, win, false, old, N, true, cutAt⟩ rfl ?_ HO.out ?_ ?_⟩
        · rw [← HF.out, Sc.main, if_neg HC.out]
          simp [hd]
        · exact (blk_set (blk_set HS.out 8 _) 4 _).trans (by simp)
        · exact (HT.out.setCell (p := ⟨g, _, none⟩) (.inl rfl) _).setCell (p := ⟨g, _, none⟩) (.inl rfl) _
      · go_wp2_with fail
        refine ⟨rfl, rhearJ_mk ⟨rate, mn, mx, wrap64 (win + A), true, old, N, true, cutAt⟩ rfl ?_ ⟨HO.out.1, HO.out.2.1, HO.out.2.2.1, wrap64_i64 _⟩ ?_ ?_⟩
        · rw [← HF.out, Sc.main, if_neg HC.out]
          simp [show ¬ 15000 < D by omega]
        · exact (blk_set (blk_set HS.out 8 _) 0 _).trans (by simp)
        · exact (HT.out.setCell (p := ⟨g, _, none⟩) (.inl rfl) _).setCell (p := ⟨g, _, none⟩) (.inl rfl) _
  · obtain ⟨rfl, rfl⟩ := hway
    have HC : Aside0 (¬ (Sc.cuts ⟨rate, mn, mx, win, fast, old, was, cut, cutAt⟩ false false R N = true)) := ⟨by simp [Sc.cuts, ]⟩
    cases fast
    · go_wp2_with fail
      refine (CS1.out _).mono ?_
      rintro e w2 ⟨rfl, hB1⟩
      go_wp2_with fail
      refine (CS2.out _).mono ?_
      rintro e w3 ⟨rfl, hB2⟩
      go_wp2_with fail
      refine (CS3.out _).mono ?_
      rintro e w4 ⟨rfl, hB3⟩
      go_wp2_with fail
      refine (CS4.out _).mono ?_
      rintro e w5 ⟨rfl, hB4⟩
      have HB := ((hB1.trans (hB2.mono hB1.size)).trans (hB3.mono (Nat.le_trans hB1.size hB2.size))).trans (hB4.mono (Nat.le_trans (Nat.le_trans hB1.size hB2.size) hB3.size))
      have H2 := (HB.block g hlt).trans HS.out
      have T2 := Aside0.mk (HT.out.below HB)
      clear h0 h1 h2 h3 h4 h5 h6 h7 h8 f0 f4 f6 f7 f8 hB1 hB2 hB3 hB4 HB
      have n0 := blk_cell H2 0
      have n1 := blk_cell H2 1
      have n2 := blk_cell H2 2
      have n3 := blk_cell H2 3
      have n4 := blk_cell H2 4
      have n5 := blk_cell H2 5
      have n6 := blk_cell H2 6
      have n7 := blk_cell H2 7
      have n8 := blk_cell H2 8
      simp only [List.getElem?_toArray, List.getElem?_cons_zero, List.getElem?_cons_succ] at n0 n1 n2 n3 n4 n5 n6 n7 n8
      have f0 := blk_frozen H2 0
      have f4 := blk_frozen H2 4
      have HH2 := Aside0.mk H2
      clear H2
      by_cases hoff : OFF < 0
      · have eb := EBY.out
        rw [if_pos hoff] at eb
        by_cases hd : D < 7500
        · by_cases hn : 5000000 ≤ wrap64 (N - was)
          · go_wp2_with fail
            refine ⟨rfl, rhearJ_mk ⟨rate, mn, mx, wrap64 (win + BY), true, old, was, cut, cutAt⟩ rfl ?_ ⟨HO.out.1, HO.out.2.1, HO.out.2.2.1, wrap64_i64 _⟩ ?_ ?_⟩
            · rw [← HF.out, Sc.main, if_neg HC.out]
              simp only [Bool.false_eq_true, ↓reduceIte, Sc.slow]
              rw [HBY.out]
              rw [if_pos hd, if_pos hn]
            · exact (blk_set (blk_set HH2.out 0 _) 4 _).trans (by rw [eb]; simp)
            · exact (T2.out.setCell (p := ⟨g, _, none⟩) (.inl rfl) _).setCell (p := ⟨g, _, none⟩) (.inl rfl) _
          · go_wp2_with fail
            refine ⟨rfl, rhearJ_mk ⟨rate, mn, mx, wrap64 (win + BY), false, old, was, cut, cutAt⟩ rfl ?_ ⟨HO.out.1, HO.out.2.1, HO.out.2.2.1, wrap64_i64 _⟩ ?_ ?_⟩
            · rw [← HF.out, Sc.main, if_neg HC.out]
              simp only [Bool.false_eq_true, ↓reduceIte, Sc.slow]
              rw [HBY.out]
              rw [if_pos hd, if_neg (by omega)]
            · exact (blk_set HH2.out 0 _).trans (by rw [eb]; simp)
            · exact T2.out.setCell (p := ⟨g, _, none⟩) (.inl rfl) _
        · go_wp2_with fail
          refine ⟨rfl, rhearJ_mk ⟨rate, mn, mx, wrap64 (win + BY), false, old, was, cut, cutAt⟩ rfl ?_ ⟨HO.out.1, HO.out.2.1, HO.out.2.2.1, wrap64_i64 _⟩ ?_ ?_⟩
          · rw [← HF.out, Sc.main, if_neg HC.out]
            simp only [Bool.false_eq_true, ↓reduceIte, Sc.slow]
            rw [HBY.out]
            rw [if_neg (by omega)]
          · exact (blk_set HH2.out 0 _).trans (by rw [eb]; simp)
          · exact T2.out.setCell (p := ⟨g, _, none⟩) (.inl rfl) _
      · have eb := EBY.out
        rw [if_neg hoff] at eb
        by_cases hd : D < 7500
        · by_cases hn : 5000000 ≤ wrap64 (N - was)
          · go_wp2_with fail
            refine ⟨rfl, rhearJ_mk ⟨rate, mn, mx, wrap64 (win + BY), true, old, was, cut, cutAt⟩ rfl ?_ ⟨HO.out.1, HO.out.2.1, HO.out.2.2.1, wrap64_i64 _⟩ ?_ ?_⟩
            · rw [← HF.out, Sc.main, if_neg HC.out]
              simp only [Bool.false_eq_true, ↓reduceIte, Sc.slow]
              rw [HBY.out]
              rw [if_pos hd, if_pos hn]
            · exact (blk_set (blk_set HH2.out 0 _) 4 _).trans (by rw [eb]; simp)
            · exact (T2.out.setCell (p := ⟨g, _, none⟩) (.inl rfl) _).setCell (p := ⟨g, _, none⟩) (.inl rfl) _
          · go_wp2_with fail
            refine ⟨rfl, rhearJ_mk ⟨rate, mn, mx, wrap64 (win + BY), false, old, was, cut, cutAt⟩ rfl ?_ ⟨HO.out.1, HO.out.2.1, HO.out.2.2.1, wrap64_i64 _⟩ ?_ ?_⟩
            · rw [← HF.out, Sc.main, if_neg HC.out]
              simp only [Bool.false_eq_true, ↓reduceIte, Sc.slow]
              rw [HBY.out]
              rw [if_pos hd, if_neg (by omega)]
            · exact (blk_set HH2.out 0 _).trans (by rw [eb]; simp)
            · exact T2.out.setCell (p := ⟨g, _, none⟩) (.inl rfl) _
        · go_wp2_with fail
          refine ⟨rfl, rhearJ_mk ⟨rate, mn, mx, wrap64 (win + BY), false, old, was, cut, cutAt⟩ rfl ?_ ⟨HO.out.1, HO.out.2.1, HO.out.2.2.1, wrap64_i64 _⟩ ?_ ?_⟩
          · rw [← HF.out, Sc.main, if_neg HC.out]
            simp only [Bool.false_eq_true, ↓reduceIte, Sc.slow]
            rw [HBY.out]
            rw [if_neg (by omega)]
          · exact (blk_set HH2.out 0 _).trans (by rw [eb]; simp)
          · exact T2.out.setCell (p := ⟨g, _, none⟩) (.inl rfl) _
    · by_cases hd : 15000 < D
      · go_wp2_with fail
        refine ⟨rfl, rhearJ_mk ⟨rate, mn, mx, win, false, old, N, cut, cutAt⟩ rfl ?_ HO.out ?_ ?_⟩
        · rw [← HF.out, Sc.main, if_neg HC.out]
          simp [hd]
        · exact (blk_set (blk_set HS.out 8 _) 4 _).trans (by simp)
        · exact (HT.out.setCell (p := ⟨g, _, none⟩) (.inl rfl) _).setCell (p := ⟨g, _, none⟩) (.inl rfl) _
      · go_wp2_with fail
        refine ⟨rfl, rhearJ_mk ⟨rate, mn, mx, wrap64 (win + A), true, old, N, cut, cutAt⟩ rfl ?_ ⟨HO.out.1, HO.out.2.1, HO.out.2.2.1, wrap64_i64 _⟩ ?_ ?_⟩
        · rw [← HF.out, Sc.main, if_neg HC.out]
          simp [show ¬ 15000 < D by omega]
        · exact (blk_set (blk_set HS.out 8 _) 0 _).trans (by simp)
        · exact (HT.out.setCell (p := ⟨g, _, none⟩) (.inl rfl) _).setCell (p := ⟨g, _, none⟩) (.inl rfl) _
theorem rhear_any (g : Nat) (s : Sc) (acked delay rtt now : Int) (lost ecn : Bool) (w : World) (hs : RscIs w g s) (hok : ScOk s) :
    Calls Try.prog 17 #[.pointer (some ⟨g, 0, none⟩), .int .i64 acked, .int .i64 delay, .bool lost, .bool ecn, .int .i64 rtt, .int .i64 now] w (RHearQ g w (s.hear acked delay lost ecn rtt now)) := by
  have hR := cl_range (a := rtt) (lo := 1000) (hi := 1000000) (by omega)
  have hA := cl_range (a := acked) (lo := 0) (hi := 16777216) (by omega)
  have hD := cl_range (a := delay) (lo := 0) (hi := 1000000) (by omega)
  have i1 : I64 (60000 - cl delay 0 1000000) := i64_const (by omega) (by omega)
  have i2 : I64 (max (-4294967296) (mdo (hold ((60000 - cl delay 0 1000000) * 4294967296)) 4294967296 (hold (60000 * 4294967296)) 2)) := by
    have := mdo_range (hold ((60000 - cl delay 0 1000000) * 4294967296)) 4294967296 (hold (60000 * 4294967296)) 2
    unfold I64 at *
    omega
  exact rhear_walk g s acked delay rtt now _ _ _ _ _ _ _ _ _ _ _ _ _ lost ecn w _ hs hok (i64_const (by omega) (by omega)) (i64_const (by omega) (by omega)) hD.1 hD.2 ⟨fun w => rclamp_any _ _ _ w⟩ ⟨fun w => rclamp_any _ _ _ w⟩ ⟨fun w => rclamp_any _ _ _ w⟩ ⟨fun w => rclamp_any _ _ _ w⟩
    ⟨fun w => rof_any _ i1 w⟩ ⟨fun w => rof_any _ (i64_const (by omega) (by omega)) w⟩ ⟨fun w => rdiv3_any _ _ (hold_i64 _) (hold_i64 _) w⟩ rfl
    ⟨fun w => rdo_any _ 1200 s.win 1 (i64_const (by omega) (by omega)) (i64_const (by omega) (by omega)) hok.2.2.2 (i64_const (by omega) (by omega)) w⟩ ⟨fun w => rof_any _ (mdo_range _ _ _ _) w⟩ ⟨fun w => rmul3_any _ _ i2 (hold_i64 _) w⟩ ⟨fun w => rint_any _ (mdo_range _ _ _ _) w⟩ ⟨rfl⟩ ⟨fun _ _ _ _ _ => by unfold Sc.by_ Sc.off; rw [Int.max_comm]⟩ ⟨rfl⟩
end Go.Proofs.Ythlgndgacmalaaa.B
