/-
  The third controller: what its calls do to it, further on. Walks over the program.
-/
import Derived.Test.YthlgndgacmalaaaSd
namespace Go.Proofs.Ythlgndgacmalaaa.B
open Go.RowKit Go.Proofs.YthlgndgacmalaaaW.PrintWords Go.Proofs.YthlgndgacmalaaaW.PrintLast Go.Proofs.YthlgndgacmalaaaW.PrintMore
set_option linter.unusedVariables false
set_option linter.unusedSimpArgs false
set_option maxHeartbeats 8000000 in
set_option maxRecDepth 100000 in
theorem hear_walk (g : Nat) (s : Sc) (acked delay rtt now A D R N : Int) (lost ecn : Bool) (w : World) (F : Sc × Int) (hs : ScIs w g s) (hok : ScOk s) (hR : I64 R) (hA : I64 A) (hD0 : 0 ≤ D) (hD1 : D ≤ 1000000)
    (CA : Aside0 (∀ w, Calls Try.prog 23 #[.int .i64 acked, .int .i64 0, .int .i64 16777216] w fun e w' => e = .returned (.int .i64 A) ∧ w' = w))
    (CD : Aside0 (∀ w, Calls Try.prog 23 #[.int .i64 delay, .int .i64 0, .int .i64 1000000] w fun e w' => e = .returned (.int .i64 D) ∧ w' = w))
    (CR : Aside0 (∀ w, Calls Try.prog 23 #[.int .i64 rtt, .int .i64 1000, .int .i64 1000000] w fun e w' => e = .returned (.int .i64 R) ∧ w' = w))
    (CN : Aside0 (∀ w, Calls Try.prog 23 #[.int .i64 now, .int .i64 0, .int .i64 1125899906842624] w fun e w' => e = .returned (.int .i64 N) ∧ w' = w))
    (HF : Aside0 ((s.main A D lost ecn R N).done R = F)) :
    Calls Try.prog 11 #[.pointer (some ⟨g, 0, none⟩), .int .i64 acked, .int .i64 delay, .bool lost, .bool ecn, .int .i64 rtt, .int .i64 now] w (HearQ g w F) := by
  go_enter Try.func11, Try.ntmps11
  go_wp2_with fail
  refine wp_scope_fwd 2 3 (HearJ g w R F) rfl (fun a w h => wp_seq (wp_skip (hear_done g _ R F hR _ rfl a w h))) ?_
  · go_hide hQ
    obtain ⟨rate, lo, hi, win, fast, old, was, cut, cutAt⟩ := s
    unfold ScIs at hs
    dsimp only at hs
    have hlt := blk_lt hs
    have h0 := blk_cell hs 0
    have h1 := blk_cell hs 1
    have h2 := blk_cell hs 2
    have h3 := blk_cell hs 3
    have h4 := blk_cell hs 4
    have h5 := blk_cell hs 5
    have h6 := blk_cell hs 6
    have h7 := blk_cell hs 7
    have h8 := blk_cell hs 8
    simp only [List.getElem?_toArray, List.getElem?_cons_zero, List.getElem?_cons_succ] at h0 h1 h2 h3 h4 h5 h6 h7 h8
    have f3 := blk_frozen hs 3
    have f4 := blk_frozen hs 4
    have f6 := blk_frozen hs 6
    have f7 := blk_frozen hs 7
    have f8 := blk_frozen hs 8
    have HS := Aside0.mk hs
    have HO := Aside0.mk hok
    clear hs hok
    go_wp2_with fail
    refine (CA.out _).mono ?_
    rintro e w1 ⟨rfl, rfl⟩
    go_wp2_with fail
    refine (CD.out _).mono ?_
    rintro e w1 ⟨rfl, rfl⟩
    go_wp2_with fail
    refine (CR.out _).mono ?_
    rintro e w1 ⟨rfl, rfl⟩
    go_wp2_with fail
    refine (CN.out _).mono ?_
    rintro e w1 ⟨rfl, rfl⟩
    go_wp2_with fail
    · have hc : Sc.cuts ⟨rate, lo, hi, win, fast, old, was, cut, cutAt⟩ lost ecn R N = true := by simp [Sc.cuts, *]
      have HC := Aside0.mk hc
      clear hc
      go_step3
      subst hQ
      refine fwd_on 2 rfl ?_
      go_hide hQ
      go_wp2_with fail
      refine (do_any win 4 5 1 HO.out.2.2.2 (i64_const (by omega) (by omega)) (i64_const (by omega) (by omega)) _).mono ?_
      rintro e w2 ⟨rfl, hB⟩
      have HM : I64 (mdo win 4 5 1) := mdo_range _ _ _ _
      generalize hM : mdo win 4 5 1 = M at *
      have EM := Aside0.mk hM
      have IM := Aside0.mk HM
      have H2 := (hB.block g hlt).trans HS.out
      clear hM HM h0 h1 h2 h3 h4 h5 h6 h7 h8 f3 f4 f6 f7 f8
      have n0 := blk_cell H2 0
      have n1 := blk_cell H2 1
      have n2 := blk_cell H2 2
      have n3 := blk_cell H2 3
      have n4 := blk_cell H2 4
      have n5 := blk_cell H2 5
      have n6 := blk_cell H2 6
      have n7 := blk_cell H2 7
      have n8 := blk_cell H2 8
      simp only [List.getElem?_toArray, List.getElem?_cons_zero, List.getElem?_cons_succ] at n0 n1 n2 n3 n4 n5 n6 n7 n8
      have f3 := blk_frozen H2 3
      have f4 := blk_frozen H2 4
      have f6 := blk_frozen H2 6
      have f7 := blk_frozen H2 7
      have f8 := blk_frozen H2 8
      have HH2 := Aside0.mk H2
      have hlt2 := blk_lt H2
      clear H2
      go_wp2_with fail
      go_step3
      rename_i K hK
      subst hQ
      refine hK _ _ (wp_fwd_of_noGoto _ (hear_done g _ R F hR _ rfl _ _ (hearJ_mk ⟨rate, lo, hi, M, false, old, N, true, N⟩ rfl ?_ ?_ ?_ ?_)))
      · rw [← HF.out]
        unfold Sc.main
        rw [if_pos HC.out]
        simp [*, EM.out]
      · exact ⟨HO.out.1, HO.out.2.1, HO.out.2.2.1, IM.out⟩
      · exact (blk_set (blk_set (blk_set (blk_set (blk_set HH2.out 3 _) 7 _) 8 _) 6 _) 4 _).trans (by simp)
      · exact ((((((Touch.refl (fun k => k = g) _).below hB).setCell (p := ⟨g, _, none⟩) (.inl rfl) _).setCell (p := ⟨g, _, none⟩) (.inl rfl) _).setCell (p := ⟨g, _, none⟩) (.inl rfl) _).setCell (p := ⟨g, _, none⟩) (.inl rfl) _).setCell (p := ⟨g, _, none⟩) (.inl rfl) _
    · have hc : ¬ (Sc.cuts ⟨rate, lo, hi, win, fast, old, was, cut, cutAt⟩ lost ecn R N = true) := by simp [Sc.cuts, *]; first | done | omega
      have HC := Aside0.mk hc
      clear hc
      have hfast : fast = true := by assumption
      subst hfast
      go_step3
      subst hQ
      refine fwd_on 2 rfl ?_
      go_hide hQ
      go_wp2_with fail
      · have hd : 15000 < D := by assumption
        go_step3
        subst hQ
        refine fwd_to _ (hearJ_mk ⟨rate, lo, hi, win, false, old, N, cut, cutAt⟩ rfl ?_ HO.out ?_ ?_)
        · rw [← HF.out]
          unfold Sc.main
          rw [if_neg HC.out]
          simp [hd]
        · exact (blk_set (blk_set HS.out 6 _) 4 _).trans (by simp)
        · exact ((Touch.refl (fun k => k = g) _).setCell (p := ⟨g, _, none⟩) (.inl rfl) _).setCell (p := ⟨g, _, none⟩) (.inl rfl) _
      · have hd : ¬ 15000 < D := by omega
        go_step3
        subst hQ
        refine fwd_to _ (hearJ_mk ⟨rate, lo, hi, wrap64 (win + A), true, old, N, cut, cutAt⟩ rfl ?_ ⟨HO.out.1, HO.out.2.1, HO.out.2.2.1, wrap64_i64 _⟩ ?_ ?_)
        · rw [← HF.out]
          unfold Sc.main
          rw [if_neg HC.out]
          simp [hd]
        · exact (blk_set (blk_set HS.out 6 _) 3 _).trans (by simp)
        · exact ((Touch.refl (fun k => k = g) _).setCell (p := ⟨g, _, none⟩) (.inl rfl) _).setCell (p := ⟨g, _, none⟩) (.inl rfl) _
    · have hc : ¬ (Sc.cuts ⟨rate, lo, hi, win, fast, old, was, cut, cutAt⟩ lost ecn R N = true) := by simp [Sc.cuts, *]; first | done | omega
      have HC := Aside0.mk hc
      clear hc
      have hfast : fast = false := by assumption
      subst hfast
      refine (slow_any g ⟨rate, lo, hi, win, false, old, was, cut, cutAt⟩ A D N _ HS.out HO.out hA hD0 hD1).mono ?_
      rintro e w2 ⟨rfl, hS2, hT2⟩
      have HS2 := Aside0.mk hS2
      clear hS2
      go_wp2_with fail
      go_step3
      subst hQ
      refine fwd_to _ (hearJ_mk _ rfl ?_ ?_ HS2.out hT2)
      · rw [← HF.out]
        unfold Sc.main
        rw [if_neg HC.out]
        simp
      · exact ⟨HO.out.1, HO.out.2.1, HO.out.2.2.1, wrap64_i64 _⟩
    · have hc : Sc.cuts ⟨rate, lo, hi, win, fast, old, was, cut, cutAt⟩ lost ecn R N = true := by simp [Sc.cuts, *]
      have HC := Aside0.mk hc
      clear hc
      go_step3
      subst hQ
      refine fwd_on 2 rfl ?_
      go_hide hQ
      go_wp2_with fail
      refine (do_any win 4 5 1 HO.out.2.2.2 (i64_const (by omega) (by omega)) (i64_const (by omega) (by omega)) _).mono ?_
      rintro e w2 ⟨rfl, hB⟩
      have HM : I64 (mdo win 4 5 1) := mdo_range _ _ _ _
      generalize hM : mdo win 4 5 1 = M at *
      have EM := Aside0.mk hM
      have IM := Aside0.mk HM
      have H2 := (hB.block g hlt).trans HS.out
      clear hM HM h0 h1 h2 h3 h4 h5 h6 h7 h8 f3 f4 f6 f7 f8
      have n0 := blk_cell H2 0
      have n1 := blk_cell H2 1
      have n2 := blk_cell H2 2
      have n3 := blk_cell H2 3
      have n4 := blk_cell H2 4
      have n5 := blk_cell H2 5
      have n6 := blk_cell H2 6
      have n7 := blk_cell H2 7
      have n8 := blk_cell H2 8
      simp only [List.getElem?_toArray, List.getElem?_cons_zero, List.getElem?_cons_succ] at n0 n1 n2 n3 n4 n5 n6 n7 n8
      have f3 := blk_frozen H2 3
      have f4 := blk_frozen H2 4
      have f6 := blk_frozen H2 6
      have f7 := blk_frozen H2 7
      have f8 := blk_frozen H2 8
      have HH2 := Aside0.mk H2
      have hlt2 := blk_lt H2
      clear H2
      go_wp2_with fail
      go_step3
      rename_i K hK
      subst hQ
      refine hK _ _ (wp_fwd_of_noGoto _ (hear_done g _ R F hR _ rfl _ _ (hearJ_mk ⟨rate, lo, hi, M, false, old, N, true, N⟩ rfl ?_ ?_ ?_ ?_)))
      · rw [← HF.out]
        unfold Sc.main
        rw [if_pos HC.out]
        simp [*, EM.out]
      · exact ⟨HO.out.1, HO.out.2.1, HO.out.2.2.1, IM.out⟩
      · exact (blk_set (blk_set (blk_set (blk_set (blk_set HH2.out 3 _) 7 _) 8 _) 6 _) 4 _).trans (by simp)
      · exact ((((((Touch.refl (fun k => k = g) _).below hB).setCell (p := ⟨g, _, none⟩) (.inl rfl) _).setCell (p := ⟨g, _, none⟩) (.inl rfl) _).setCell (p := ⟨g, _, none⟩) (.inl rfl) _).setCell (p := ⟨g, _, none⟩) (.inl rfl) _).setCell (p := ⟨g, _, none⟩) (.inl rfl) _
    · have hc : Sc.cuts ⟨rate, lo, hi, win, fast, old, was, cut, cutAt⟩ lost ecn R N = true := by simp [Sc.cuts, *]
      have HC := Aside0.mk hc
      clear hc
      go_step3
      subst hQ
      refine fwd_on 2 rfl ?_
      go_hide hQ
      go_wp2_with fail
      refine (do_any win 9 10 1 HO.out.2.2.2 (i64_const (by omega) (by omega)) (i64_const (by omega) (by omega)) _).mono ?_
      rintro e w2 ⟨rfl, hB⟩
      have HM : I64 (mdo win 9 10 1) := mdo_range _ _ _ _
      generalize hM : mdo win 9 10 1 = M at *
      have EM := Aside0.mk hM
      have IM := Aside0.mk HM
      have H2 := (hB.block g hlt).trans HS.out
      clear hM HM h0 h1 h2 h3 h4 h5 h6 h7 h8 f3 f4 f6 f7 f8
      have n0 := blk_cell H2 0
      have n1 := blk_cell H2 1
      have n2 := blk_cell H2 2
      have n3 := blk_cell H2 3
      have n4 := blk_cell H2 4
      have n5 := blk_cell H2 5
      have n6 := blk_cell H2 6
      have n7 := blk_cell H2 7
      have n8 := blk_cell H2 8
      simp only [List.getElem?_toArray, List.getElem?_cons_zero, List.getElem?_cons_succ] at n0 n1 n2 n3 n4 n5 n6 n7 n8
      have f3 := blk_frozen H2 3
      have f4 := blk_frozen H2 4
      have f6 := blk_frozen H2 6
      have f7 := blk_frozen H2 7
      have f8 := blk_frozen H2 8
      have HH2 := Aside0.mk H2
      have hlt2 := blk_lt H2
      clear H2
      go_wp2_with fail
      go_step3
      rename_i K hK
      subst hQ
      refine hK _ _ (wp_fwd_of_noGoto _ (hear_done g _ R F hR _ rfl _ _ (hearJ_mk ⟨rate, lo, hi, M, false, old, N, true, N⟩ rfl ?_ ?_ ?_ ?_)))
      · rw [← HF.out]
        unfold Sc.main
        rw [if_pos HC.out]
        simp [*, EM.out]
      · exact ⟨HO.out.1, HO.out.2.1, HO.out.2.2.1, IM.out⟩
      · exact (blk_set (blk_set (blk_set (blk_set (blk_set HH2.out 3 _) 7 _) 8 _) 6 _) 4 _).trans (by simp)
      · exact ((((((Touch.refl (fun k => k = g) _).below hB).setCell (p := ⟨g, _, none⟩) (.inl rfl) _).setCell (p := ⟨g, _, none⟩) (.inl rfl) _).setCell (p := ⟨g, _, none⟩) (.inl rfl) _).setCell (p := ⟨g, _, none⟩) (.inl rfl) _).setCell (p := ⟨g, _, none⟩) (.inl rfl) _
    · have hc : ¬ (Sc.cuts ⟨rate, lo, hi, win, fast, old, was, cut, cutAt⟩ lost ecn R N = true) := by simp [Sc.cuts, *]; first | done | omega
      have HC := Aside0.mk hc
      clear hc
      have hfast : fast = true := by assumption
      subst hfast
      go_step3
      subst hQ
      refine fwd_on 2 rfl ?_
      go_hide hQ
      go_wp2_with fail
      · have hd : 15000 < D := by assumption
        go_step3
        subst hQ
        refine fwd_to _ (hearJ_mk ⟨rate, lo, hi, win, false, old, N, cut, cutAt⟩ rfl ?_ HO.out ?_ ?_)
        · rw [← HF.out]
          unfold Sc.main
          rw [if_neg HC.out]
          simp [hd]
        · exact (blk_set (blk_set HS.out 6 _) 4 _).trans (by simp)
        · exact ((Touch.refl (fun k => k = g) _).setCell (p := ⟨g, _, none⟩) (.inl rfl) _).setCell (p := ⟨g, _, none⟩) (.inl rfl) _
      · have hd : ¬ 15000 < D := by omega
        go_step3
        subst hQ
        refine fwd_to _ (hearJ_mk ⟨rate, lo, hi, wrap64 (win + A), true, old, N, cut, cutAt⟩ rfl ?_ ⟨HO.out.1, HO.out.2.1, HO.out.2.2.1, wrap64_i64 _⟩ ?_ ?_)
        · rw [← HF.out]
          unfold Sc.main
          rw [if_neg HC.out]
          simp [hd]
        · exact (blk_set (blk_set HS.out 6 _) 3 _).trans (by simp)
        · exact ((Touch.refl (fun k => k = g) _).setCell (p := ⟨g, _, none⟩) (.inl rfl) _).setCell (p := ⟨g, _, none⟩) (.inl rfl) _
    · have hc : ¬ (Sc.cuts ⟨rate, lo, hi, win, fast, old, was, cut, cutAt⟩ lost ecn R N = true) := by simp [Sc.cuts, *]; first | done | omega
      have HC := Aside0.mk hc
      clear hc
      have hfast : fast = false := by assumption
      subst hfast
      refine (slow_any g ⟨rate, lo, hi, win, false, old, was, cut, cutAt⟩ A D N _ HS.out HO.out hA hD0 hD1).mono ?_
      rintro e w2 ⟨rfl, hS2, hT2⟩
      have HS2 := Aside0.mk hS2
      clear hS2
      go_wp2_with fail
      go_step3
      subst hQ
      refine fwd_to _ (hearJ_mk _ rfl ?_ ?_ HS2.out hT2)
      · rw [← HF.out]
        unfold Sc.main
        rw [if_neg HC.out]
        simp
      · exact ⟨HO.out.1, HO.out.2.1, HO.out.2.2.1, wrap64_i64 _⟩
    · have hc : Sc.cuts ⟨rate, lo, hi, win, fast, old, was, cut, cutAt⟩ lost ecn R N = true := by simp [Sc.cuts, *]
      have HC := Aside0.mk hc
      clear hc
      go_step3
      subst hQ
      refine fwd_on 2 rfl ?_
      go_hide hQ
      go_wp2_with fail
      refine (do_any win 9 10 1 HO.out.2.2.2 (i64_const (by omega) (by omega)) (i64_const (by omega) (by omega)) _).mono ?_
      rintro e w2 ⟨rfl, hB⟩
      have HM : I64 (mdo win 9 10 1) := mdo_range _ _ _ _
      generalize hM : mdo win 9 10 1 = M at *
      have EM := Aside0.mk hM
      have IM := Aside0.mk HM
      have H2 := (hB.block g hlt).trans HS.out
      clear hM HM h0 h1 h2 h3 h4 h5 h6 h7 h8 f3 f4 f6 f7 f8
      have n0 := blk_cell H2 0
      have n1 := blk_cell H2 1
      have n2 := blk_cell H2 2
      have n3 := blk_cell H2 3
      have n4 := blk_cell H2 4
      have n5 := blk_cell H2 5
      have n6 := blk_cell H2 6
      have n7 := blk_cell H2 7
      have n8 := blk_cell H2 8
      simp only [List.getElem?_toArray, List.getElem?_cons_zero, List.getElem?_cons_succ] at n0 n1 n2 n3 n4 n5 n6 n7 n8
      have f3 := blk_frozen H2 3
      have f4 := blk_frozen H2 4
      have f6 := blk_frozen H2 6
      have f7 := blk_frozen H2 7
      have f8 := blk_frozen H2 8
      have HH2 := Aside0.mk H2
      have hlt2 := blk_lt H2
      clear H2
      go_wp2_with fail
      go_step3
      rename_i K hK
      subst hQ
      refine hK _ _ (wp_fwd_of_noGoto _ (hear_done g _ R F hR _ rfl _ _ (hearJ_mk ⟨rate, lo, hi, M, false, old, N, true, N⟩ rfl ?_ ?_ ?_ ?_)))
      · rw [← HF.out]
        unfold Sc.main
        rw [if_pos HC.out]
        simp [*, EM.out]
      · exact ⟨HO.out.1, HO.out.2.1, HO.out.2.2.1, IM.out⟩
      · exact (blk_set (blk_set (blk_set (blk_set (blk_set HH2.out 3 _) 7 _) 8 _) 6 _) 4 _).trans (by simp)
      · exact ((((((Touch.refl (fun k => k = g) _).below hB).setCell (p := ⟨g, _, none⟩) (.inl rfl) _).setCell (p := ⟨g, _, none⟩) (.inl rfl) _).setCell (p := ⟨g, _, none⟩) (.inl rfl) _).setCell (p := ⟨g, _, none⟩) (.inl rfl) _).setCell (p := ⟨g, _, none⟩) (.inl rfl) _
    · have hc : ¬ (Sc.cuts ⟨rate, lo, hi, win, fast, old, was, cut, cutAt⟩ lost ecn R N = true) := by simp [Sc.cuts, *]
      have HC := Aside0.mk hc
      clear hc
      have hfast : fast = true := by assumption
      subst hfast
      go_step3
      subst hQ
      refine fwd_on 2 rfl ?_
      go_hide hQ
      go_wp2_with fail
      · have hd : 15000 < D := by assumption
        go_step3
        subst hQ
        refine fwd_to _ (hearJ_mk ⟨rate, lo, hi, win, false, old, N, cut, cutAt⟩ rfl ?_ HO.out ?_ ?_)
        · rw [← HF.out]
          unfold Sc.main
          rw [if_neg HC.out]
          simp [hd]
        · exact (blk_set (blk_set HS.out 6 _) 4 _).trans (by simp)
        · exact ((Touch.refl (fun k => k = g) _).setCell (p := ⟨g, _, none⟩) (.inl rfl) _).setCell (p := ⟨g, _, none⟩) (.inl rfl) _
      · have hd : ¬ 15000 < D := by omega
        go_step3
        subst hQ
        refine fwd_to _ (hearJ_mk ⟨rate, lo, hi, wrap64 (win + A), true, old, N, cut, cutAt⟩ rfl ?_ ⟨HO.out.1, HO.out.2.1, HO.out.2.2.1, wrap64_i64 _⟩ ?_ ?_)
        · rw [← HF.out]
          unfold Sc.main
          rw [if_neg HC.out]
          simp [hd]
        · exact (blk_set (blk_set HS.out 6 _) 3 _).trans (by simp)
        · exact ((Touch.refl (fun k => k = g) _).setCell (p := ⟨g, _, none⟩) (.inl rfl) _).setCell (p := ⟨g, _, none⟩) (.inl rfl) _
    · have hc : ¬ (Sc.cuts ⟨rate, lo, hi, win, fast, old, was, cut, cutAt⟩ lost ecn R N = true) := by simp [Sc.cuts, *]
      have HC := Aside0.mk hc
      clear hc
      have hfast : fast = false := by assumption
      subst hfast
      refine (slow_any g ⟨rate, lo, hi, win, false, old, was, cut, cutAt⟩ A D N _ HS.out HO.out hA hD0 hD1).mono ?_
      rintro e w2 ⟨rfl, hS2, hT2⟩
      have HS2 := Aside0.mk hS2
      clear hS2
      go_wp2_with fail
      go_step3
      subst hQ
      refine fwd_to _ (hearJ_mk _ rfl ?_ ?_ HS2.out hT2)
      · rw [← HF.out]
        unfold Sc.main
        rw [if_neg HC.out]
        simp
      · exact ⟨HO.out.1, HO.out.2.1, HO.out.2.2.1, wrap64_i64 _⟩
end Go.Proofs.Ythlgndgacmalaaa.B
