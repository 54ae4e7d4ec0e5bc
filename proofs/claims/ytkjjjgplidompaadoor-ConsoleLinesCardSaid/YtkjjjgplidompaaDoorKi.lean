/-
  A line's step: the reference's way. Walk.
-/
import Derived.Test.YtkjjjgplidompaaDoorKh
namespace Go.Proofs.YtkjjjgplidompaaDoor.B
open Go.RowKit Go.Proofs.YtkjjjgplidompaaDoorW.PrintWords Go.Proofs.YtkjjjgplidompaaDoorW.PrintLast Go.Proofs.YtkjjjgplidompaaDoorW.PrintMore
set_option linter.unusedVariables false
set_option linter.unusedSimpArgs false
/-- The four numbers, as many as are read. -/
def aC (r : List (List UInt8)) (j : Nat) : Array Value := #[.int .i64 (if 0 < j then (nvA r 0 : Nat) else 0 : Int), .int .i64 (if 1 < j then (nvA r 1 : Nat) else 0 : Int), .int .i64 (if 2 < j then (nvA r 2 : Nat) else 0 : Int), .int .i64 (if 3 < j then (nvA r 3 : Nat) else 0 : Int)]
theorem aC_at (r : List (List UInt8)) (j : Nat) (h : j < 4) : (aC r j)[j]? = some (.int .i64 0) := by
  have h4 : j = 0 ∨ j = 1 ∨ j = 2 ∨ j = 3 := by omega
  rcases h4 with rfl | rfl | rfl | rfl <;> simp [aC]
theorem aC_set (r : List (List UInt8)) (j : Nat) (h : j < 4) : (aC r j).setIfInBounds j (.int .i64 (nvA r j : Int)) = aC r (j + 1) := by
  have h4 : j = 0 ∨ j = 1 ∨ j = 2 ∨ j = 3 := by omega
  rcases h4 with rfl | rfl | rfl | rfl <;> simp [aC]
def RERel (w : World) (g2 g7 g8 rg ro t : Nat) (k a : List UInt8) (r : List (List UInt8)) (v9 : Value) (wr : World) : Prop := ∃ j : Nat, v9 = .int .i64 j ∧ j ≤ 4 ∧ Aside0 (∀ i, i < j → nbA r i = true) ∧ Aside0 (wr.heap[g8]? = some (.cells (aC r j) 56 (0, 0))) ∧ Aside0 (wr.heap[g7]? = some (.cells (stC 0 t 0 0 0 0 []) 26 (0, 0))) ∧ Aside0 (wr.heap[g2]? = some (.cells (stC 0 0 0 0 0 0 []) 26 (0, 0))) ∧
  Aside0 (∀ (j : Nat) (u : Value), (strsV (k :: a :: r))[j]? = some u → wr.cell? ⟨rg, ro + j, none⟩ = some u) ∧ Aside0 (Below w.heap.size w wr)
theorem rparse_load (g : Nat) (tm : Array Value) (w : World) (cs : Array Value) (x : Value) (hc : cs.size = 7) (t2 : tm[2]?.getD undef = .pointer (some ⟨g, 0, none⟩)) (t3 : tm[3]?.getD undef = x) (hb : w.heap[g]? = some (.cells cs 26 (0, 0))) :
    (results Tryd.f9 tm).run Tryd.prog w = .ok (.tuple #[.agg cs, x]) w := by
  obtain ⟨a0, a1, a2, a3, a4, a5, a6, rfl⟩ : ∃ a0 a1 a2 a3 a4 a5 a6, cs = #[a0, a1, a2, a3, a4, a5, a6] := by
    obtain ⟨l⟩ := cs
    match l, hc with
    | [a0, a1, a2, a3, a4, a5, a6], _ => exact ⟨a0, a1, a2, a3, a4, a5, a6, rfl⟩
  have c0 := blk_cell hb 0
  have c1 := blk_cell hb 1
  have c2 := blk_cell hb 2
  have c3 := blk_cell hb 3
  have c4 := blk_cell hb 4
  have c5 := blk_cell hb 5
  have c6 := blk_cell hb 6
  simp only [List.getElem?_toArray, List.getElem?_cons_zero, List.getElem?_cons_succ] at c0 c1 c2 c3 c4 c5 c6
  simp [results, Tryd.results9, go_sem, t2, t3, c0, c1, c2, c3, c4, c5, c6]
set_option maxHeartbeats 8000000 in
set_option maxRecDepth 100000 in
theorem rparse_any (s : ByteArray) (w : World) (hs : s.size ≤ 1000000) : Calls Tryd.prog 9 #[.string s] w (ParPost s.data.toList w) := by
  have hl := len_of s
  go_enter Tryd.func9, Tryd.ntmps9
  go_wp2_with fail
  refine (rwords_any s _ hs).mono ?_
  rintro e w1 ⟨v, rfl, hR, hB1⟩
  obtain ⟨g2, hg2⟩ : ∃ g, g = w.heap.size := ⟨_, rfl⟩
  have k2 : w1.heap[g2]? = some (.cells (stC 0 0 0 0 0 0 []) 26 (0, 0)) := by
    rw [hg2]
    exact (hB1.block _ (by simp)).trans (blk_new w _)
  have HB := Aside0.mk ((((Below.refl _ w).alloc (Nat.le_refl _) (.cells (stC 0 0 0 0 0 0 []) 26))).trans (hB1.mono (by simp)))
  rw [← hg2]
  have HG := Aside0.mk hg2
  have hw := words_length s.data.toList
  obtain ⟨W, hW⟩ : ∃ W, W = wordsL s.data.toList := ⟨_, rfl⟩
  rw [← hW] at hR hw
  obtain ⟨n, hn⟩ : ∃ n, n = W.length := ⟨_, rfl⟩
  rw [← hn] at hR hw
  obtain ⟨A, c, rfl, hnc, hcm⟩ := hR.form
  have HR := Aside0.mk hR
  have HW := Aside0.mk hW
  have HN := Aside0.mk hn
  clear hR hW hn hg2 hB1
  by_cases h2 : n < 2
  · have q1 : decide ((n : Int) < 2) = true := decide_eq_true (by omega)
    have HP := Aside0.mk (parV_none (parse_few (l := s.data.toList) (by rw [← HW.out, ← HN.out]; exact h2)))
    obtain ⟨⟨c0, c1, c2, c3, c4, c5, c6⟩, f0, f1, f2, f3, f4, f5, f6⟩ := stcells k2
    have K2 := Aside0.mk k2
    clear k2 h2
    go_wp2_with fail
    refine bodyPost_ret (rparse_load g2 _ _ _ _ rfl rfl rfl (stset K2.out _ _ _ _ _ _ _)) rfl ?_
    exact ⟨by rw [HP.out]; rfl, stbelow HB.out (by rw [HG.out]; exact Nat.le_refl _) _ _ _ _ _ _ _⟩
  · have q1 : decide ((n : Int) < 2) = false := decide_eq_false (by omega)
    obtain ⟨k, a, r, hkar⟩ : ∃ k a r, W = k :: a :: r := by
      have := HN.out
      match W, this with
      | [], h => simp at h; omega
      | [_], h => simp at h; omega
      | k :: a :: r, _ => exact ⟨k, a, r, rfl⟩
    subst hkar
    have hnr : n = r.length + 2 := by rw [HN.out]; simp
    have HNR := Aside0.mk hnr
    have hn2 : 2 ≤ n := by omega
    obtain ⟨rg, ro, c', heq, hrg, _, _, hcell⟩ := HR.out.some_ (by omega)
    clear hnr
    injection heq with heq1 _ heq2
    subst heq1 heq2
    have r0 : w1.cell? ⟨rg, ro, none⟩ = some (.string (tx k)) := hcell 0 _ rfl
    have r1 : w1.cell? ⟨rg, ro + 1, none⟩ = some (.string (tx a)) := hcell 1 _ rfl
    have HCE := Aside0.mk hcell
    have K2 := Aside0.mk k2
    have hcl : ∀ x ∈ wordsL s.data.toList, x.length ≤ s.size := fun x hx => by have := words_len s.data.toList x hx; omega
    rw [← HW.out] at hcl
    have ha : a.length ≤ 1000000 := by have := hcl a (by simp); omega
    have HCL := Aside0.mk hcl
    clear hcell k2 h2 hcl hcm hw
    go_wp2_with fail
    refine (rnumber_any (tx a) 18 w1 (by omega) (by rw [tx_size]; exact ha)).mono ?_
    rintro e w3 ⟨rfl, hw3⟩
    obtain rfl := hw3.symm
    clear hw3
    rw [tx_data]
    obtain ⟨T, hT⟩ : ∃ T, T = numR a 18 := ⟨_, rfl⟩
    rw [← hT]
    have HTT := Aside0.mk hT
    have hrl := World.block_lt_of_cell? w1 _ r0
    clear hT r0 r1 hrg
    have lt2 := blk_ltI K2.out
    obtain ⟨g7, hg7⟩ : ∃ g, g = w1.heap.size := ⟨_, rfl⟩
    go_upto_region 5 with fail
    obtain ⟨W4, hW4⟩ : ∃ W4, W4 = w1.alloc (.cells #[.int .i64 0, .int .i64 T, .int .i64 0, .int .i64 0, .int .i64 0, .int .i64 0, .string { data := #[] }] 26) := ⟨_, rfl⟩
    have K7 : W4.heap[g7]? = some (.cells (stC 0 T 0 0 0 0 []) 26 (0, 0)) := by rw [hW4, hg7]; exact blk_new w1 _
    have hb4 : Below w1.heap.size w1 W4 := by rw [hW4]; exact (Below.refl _ _).alloc (Nat.le_refl _) _
    have hB4 : Below w.heap.size w W4 := HB.out.trans (hb4.mono HB.out.size)
    have K24 := (hb4.block g2 lt2).trans K2.out
    have hcell4 : ∀ (j : Nat) (u : Value), (strsV (k :: a :: r))[j]? = some u → W4.cell? ⟨rg, ro + j, none⟩ = some u := fun j u h => (hb4.cell (p := ⟨rg, ro + j, none⟩) hrl).trans (HCE.out j u h)
    have hne : g2 ≠ g7 := by omega
    have HRG := Aside0.mk (show rg ≠ g7 by have h_ : rg < w1.heap.size := hrl; omega)
    rw [← hW4]
    (try rw [← hg7])
    have H7 := Aside0.mk K7
    have H2 := Aside0.mk K24
    have HC := Aside0.mk hcell4
    have HB4 := Aside0.mk hB4
    have HG7 := Aside0.mk (show w.heap.size ≤ g7 by rw [hg7]; exact HB.out.size)
    have r0 : W4.cell? ⟨rg, ro, none⟩ = some (.string (tx k)) := hcell4 0 _ rfl
    obtain ⟨⟨c0, c1, c2, c3, c4, c5, c6⟩, f0, f1, f2, f3, f4, f5, f6⟩ := stcells K24
    obtain ⟨⟨d0, d1, d2, d3, d4, d5, d6⟩, e0, e1, e2, e3, e4, e5, e6⟩ := stcells K7
    have l2 := blk_ltI K24
    have l7 := blk_ltI K7
    clear hW4 hg7 hcell4 hB4 hb4 K24 K7 hrl K2 HB HCE HR lt2
    by_cases hneg : T < 0
    · have p0 : decide (T < 0) = true := decide_eq_true hneg
      have HP := Aside0.mk (par_err HW.out (show false = numB a 18 by
        have h_ := HTT.out
        unfold numR at h_
        unfold numB
        cases hn : numberL a 18 with
        | none => rfl
        | some n => rw [hn] at h_; simp at h_; (try omega)))
      clear hneg
      go_wp2_with fail
      refine bodyPost_ret (rparse_load g2 _ _ _ _ rfl rfl rfl (stset H2.out _ _ _ _ _ _ _)) rfl ?_
      exact ⟨by rw [HP.out]; rfl, stbelow HB4.out (by rw [HG.out]; exact Nat.le_refl _) _ _ _ _ _ _ _⟩
    have p0 : decide (T < 0) = false := decide_eq_false hneg
    obtain ⟨t, rfl⟩ : ∃ t : Nat, T = (t : Int) := ⟨T.toNat, by omega⟩
    have HT : Aside0 (t = numN a 18 ∧ true = numB a 18) := ⟨by
      have h_ := HTT.out
      unfold numR at h_
      unfold numB numN
      cases hn : numberL a 18 with
      | none => rw [hn] at h_; simp at h_
      | some n => rw [hn] at h_; simp at h_ ⊢; omega⟩
    clear HTT hneg
    by_cases h3 : k = [116] ∧ r.length = 0
    · have q2 : (k == [116]) = true := by rw [h3.1]; rfl
      have q3 : ((n : Int) == 2) = true := by rw [HNR.out, h3.2]; rfl
      have HP := Aside0.mk (par_st HW.out HT.out.2 (show stepW k (numN a 18) r = some ⟨2, (numN a 18 : Nat), 0, 0, 0, 0, []⟩ by
        obtain ⟨h3, h4⟩ := h3
        subst h3
        rw [List.eq_nil_of_length_eq_zero h4]; rfl))
      rw [← HT.out.1] at HP
      clear h3
      go_wp2_with fail
      refine bodyPost_ret (rparse_load g2 _ _ _ _ rfl rfl rfl (stset (stkeep H2.out hne 0 _) _ _ _ _ _ _ _)) rfl ?_
      exact ⟨by rw [HP.out]; rfl, stbelow (HB4.out.setCell (p := ⟨g7, 0, none⟩) HG7.out _) (by rw [HG.out]; exact Nat.le_refl _) _ _ _ _ _ _ _⟩
    · by_cases h4 : k = [102] ∧ r.length = 1
      · have q2 : (k == [116]) = false := by rw [h4.1]; rfl
        have q3 : (k == [102]) = true := by rw [h4.1]; rfl
        have q4 : ((n : Int) == 3) = true := by rw [HNR.out, h4.2]; rfl
        have hn3 : n = 3 := by rw [HNR.out, h4.2]
        obtain ⟨d, hd⟩ : ∃ d, r = [d] := by
          match r, h4.2 with
          | [d], _ => exact ⟨d, rfl⟩
        have hk := h4.1
        subst hd
        clear h3 h4
        have r2 : W4.cell? ⟨rg, ro + 2, none⟩ = some (.string (tx d)) := HC.out 2 _ rfl
        have hdl : d.length ≤ 1000000 := by have := HCL.out d (by simp); omega
        have hn3' : (2 : Int) < (n : Int) := by omega
        have HK := Aside0.mk hk
        have HN3 := Aside0.mk hn3
        clear hk hn3
        go_wp2_with fail
        refine (runhex_any (tx d) _ (by rw [tx_size]; exact hdl)).mono ?_
        rintro e w5 ⟨rfl, hb5⟩
        rw [tx_data]
        have K7 := (hb5.block g7 (blk_ltI H7.out)).trans H7.out
        have K2 := (hb5.block g2 (blk_ltI H2.out)).trans H2.out
        have HB5 := Aside0.mk (HB4.out.trans (hb5.mono HB4.out.size))
        clear c0 c1 c2 c3 c4 c5 c6 f0 f1 f2 f3 f4 f5 f6 d0 d1 d2 d3 d4 d5 d6 e0 e1 e2 e3 e4 e5 e6 hb5 l2 l7 r0 r2
        obtain ⟨⟨c0, c1, c2, c3, c4, c5, c6⟩, f0, f1, f2, f3, f4, f5, f6⟩ := stcells K2
        obtain ⟨⟨d0, d1, d2, d3, d4, d5, d6⟩, e0, e1, e2, e3, e4, e5, e6⟩ := stcells K7
        have l2 := blk_ltI K2
        have l7 := blk_ltI K7
        have HK2 := Aside0.mk K2
        clear K2 K7 q2 q3 q4 q1
        cases hu : unhexL d with
        | none =>
          have HP := Aside0.mk (par_no HW.out (fun t => show stepW k t [d] = none by rw [HK.out]; show (unhexL d).map _ = none; rw [hu]; rfl))
          rw [bytesV_none hu]
          clear hu
          go_wp2_with fail
          refine bodyPost_ret (rparse_load g2 _ _ _ _ rfl rfl rfl (stset HK2.out _ _ _ _ _ _ _)) rfl ?_
          exact ⟨by rw [HP.out]; rfl, stbelow HB5.out (by rw [HG.out]; exact Nat.le_refl _) _ _ _ _ _ _ _⟩
        | some bd =>
          rw [bytesV_some hu]
          have HP := Aside0.mk (par_st HW.out HT.out.2 (show stepW k (numN a 18) [d] = some ⟨3, (numN a 18 : Nat), 0, 0, 0, 0, bd⟩ by rw [HK.out]; show (unhexL d).map _ = _; rw [hu]; rfl))
          rw [← HT.out.1] at HP
          clear hu
          go_wp2_with fail
          refine bodyPost_ret (rparse_load g2 _ _ _ _ rfl rfl rfl (stset (stkeep (stkeep HK2.out hne 0 _) hne 6 _) _ _ _ _ _ _ _)) rfl ?_
          exact ⟨by rw [HP.out]; rfl, stbelow ((HB5.out.setCell (p := ⟨g7, 0, none⟩) HG7.out _).setCell (p := ⟨g7, 6, none⟩) HG7.out _) (by rw [HG.out]; exact Nat.le_refl _) _ _ _ _ _ _ _⟩
      · by_cases h5 : k = [101] ∧ r.length = 4
        · have q2 : (k == [116]) = false := by rw [h5.1]; rfl
          have q3 : (k == [102]) = false := by rw [h5.1]; rfl
          have q4 : (k == [101]) = true := by rw [h5.1]; rfl
          have q5 : ((n : Int) == 6) = true := by rw [HNR.out, h5.2]; rfl
          have HK := Aside0.mk h5.1
          have HR4 := Aside0.mk h5.2
          have hn6 : (6 : Int) ≤ (n : Int) := by have := HNR.out; have := h5.2; omega
          have hrg7 : rg ≠ g7 := HRG.out
          clear h3 h4 h5
          go_wp2_with fail
          obtain ⟨g8, hg8⟩ : ∃ g, g = W4.heap.size := ⟨_, rfl⟩
          have hpn := blk_new W4 (.cells #[.int .i64 0, .int .i64 0, .int .i64 0, .int .i64 0] 56)
          rw [← hg8] at hpn
          have h87 : g8 ≠ g7 := by omega
          have h82 : g8 ≠ g2 := by omega
          have h8w : w.heap.size ≤ g8 := by rw [hg8]; exact HB4.out.size
          have h8r : rg ≠ g8 := by have h_ := World.block_lt_of_cell? _ _ r0; dsimp only at h_; omega
          rw [← hg8]
          clear hg8
          have H8 := Aside0.mk (And.intro h87 (And.intro h82 (And.intro h8w h8r)))
          go_loopw [9, 10] (fun v9 _ wr => RERel w g2 g7 g8 rg ro t k a r v9 wr) (fun v _ _ => 4 - (intOf v).toNat)
          case atStart =>
            refine ⟨0, rfl, by omega, ⟨fun i hi => absurd hi (by omega)⟩, ⟨hpn⟩, ⟨(Below.heap_alloc _ _ _ l7).trans H7.out⟩, ⟨(Below.heap_alloc _ _ _ l2).trans H2.out⟩, ⟨fun j u hu => ?_⟩, ⟨HB4.out.alloc HB4.out.size _⟩⟩
            have h2 := HC.out j u hu
            rw [World.cell?_of_block (Below.heap_alloc _ _ _ (World.block_lt_of_cell? _ _ h2))]
            exact h2
          case round =>
            obtain ⟨j, rfl, hj, hN, hE8, hE7, hE2, hC2, hBr⟩ := hrel
            clear c0 c1 c2 c3 c4 c5 c6 f0 f1 f2 f3 f4 f5 f6 d0 d1 d2 d3 d4 d5 d6 e0 e1 e2 e3 e4 e5 e6 l2 l7 r0 hpn H7 H2 HC HB4
            by_cases hlt : j < 4
            · have p1 : decide ((j : Int) < 4) = true := decide_eq_true (by omega)
              obtain ⟨x, hx⟩ : ∃ x, x = r.getD j [] := ⟨_, rfl⟩
              have hxm : x ∈ k :: a :: r := by
                rw [hx, List.getD_eq_getElem?_getD, List.getElem?_eq_getElem (by rw [HR4.out]; exact hlt)]
                simp
              have hxl : x.length ≤ 1000000 := by have := HCL.out x hxm; omega
              have rr : wr.cell? ⟨rg, ro + (2 + j), none⟩ = some (.string (tx x)) := hC2.out (2 + j) _ (by
                unfold strsV
                rw [List.getElem?_map, show 2 + j = j + 1 + 1 by omega, List.getElem?_cons_succ, List.getElem?_cons_succ, List.getElem?_eq_getElem (by rw [HR4.out]; exact hlt), hx, List.getD_eq_getElem?_getD, List.getElem?_eq_getElem (by rw [HR4.out]; exact hlt)]
                rfl)
              have HX := Aside0.mk hx
              clear hx hxm h87 h82 h8w h8r
              go_wp2_with fail
              refine (rnumber_any (tx x) 9 wr (by omega) (by rw [tx_size]; exact hxl)).mono ?_
              rintro e w6 ⟨rfl, hw6⟩
              obtain rfl := hw6.symm
              clear hw6
              rw [tx_data]
              obtain ⟨M, hM⟩ : ∃ M, M = numR x 9 := ⟨_, rfl⟩
              rw [← hM]
              have HM := Aside0.mk hM
              clear hM
              obtain ⟨⟨c0, c1, c2, c3, c4, c5, c6⟩, f0, f1, f2, f3, f4, f5, f6⟩ := stcells hE2.out
              have l2 := blk_ltI hE2.out
              by_cases hneg : M < 0
              · have p2 : decide (M < 0) = true := decide_eq_true hneg
                have HP : Aside0 (parV s.data.toList = .tuple #[stV stZ, .int .i64 320]) := ⟨by
                  refine par_no HW.out (fun t => ?_)
                  have hb : nbA r j = false := by
                    unfold nbA numB
                    rw [← HX.out]
                    have h_ := HM.out
                    unfold numR at h_
                    cases hn : numberL x 9 with
                    | none => rfl
                    | some n => rw [hn] at h_; simp at h_; (try omega)
                  rw [HK.out, step_four HR4.out, if_neg]
                  intro h
                  simp only [okA, Bool.and_eq_true] at h
                  have h4 : j = 0 ∨ j = 1 ∨ j = 2 ∨ j = 3 := by omega
                  rcases h4 with rfl | rfl | rfl | rfl
                  · rw [hb] at h; simp at h
                  · rw [hb] at h; simp at h
                  · rw [hb] at h; simp at h
                  · rw [hb] at h; simp at h⟩
                clear hneg rr
                go_wp2_with fail
                refine bodyPost_ret (rparse_load g2 _ _ _ _ rfl rfl rfl (stset hE2.out _ _ _ _ _ _ _)) rfl ?_
                exact ⟨by rw [HP.out]; rfl, stbelow hBr.out (by rw [HG.out]; exact Nat.le_refl _) _ _ _ _ _ _ _⟩
              · have p2 : decide (M < 0) = false := decide_eq_false hneg
                obtain ⟨m, rfl⟩ : ∃ m : Nat, M = (m : Int) := ⟨M.toNat, by omega⟩
                have HV : Aside0 (nvA r j = m ∧ nbA r j = true) := ⟨by
                  unfold nvA nbA numB numN
                  rw [← HX.out]
                  have h_ := HM.out
                  unfold numR at h_
                  cases hn : numberL x 9 with
                  | none => rw [hn] at h_; simp at h_; (try omega)
                  | some n => rw [hn] at h_; simp at h_ ⊢; omega⟩
                have dj := blk_cell hE8.out j
                rw [aC_at r j hlt] at dj
                have fj := blk_frozen hE8.out j
                have l8 := blk_ltI hE8.out
                have HZ : Aside0 (RERel w g2 g7 g8 rg ro t k a r (.int .i64 ((j + 1 : Nat) : Int)) (wr.setCell ⟨g8, j, none⟩ (.int .i64 (m : Int)))) := ⟨by
                  refine ⟨j + 1, rfl, by omega, ⟨fun i hi => ?_⟩, ⟨?_⟩, ⟨stkeep hE7.out (Ne.symm H8.out.1) j _⟩, ⟨stkeep hE2.out (Ne.symm H8.out.2.1) j _⟩, ⟨fun i u hu => ?_⟩, ⟨hBr.out.setCell (p := ⟨g8, j, none⟩) H8.out.2.2.1 _⟩⟩
                  · by_cases h : i = j
                    · rw [h]; exact HV.out.2
                    · exact hN.out i (by omega)
                  · rw [← aC_set r j hlt, HV.out.1]
                    exact blk_set hE8.out j (.int .i64 (m : Int))
                  · rw [World.cell?_setCell_other wr ⟨g8, j, none⟩ ⟨rg, ro + i, none⟩ _ (by intro h; injection h with h _; exact H8.out.2.2.2 h.symm)]
                    exact hC2.out i u hu⟩
                clear hneg rr c0 c1 c2 c3 c4 c5 c6 f0 f1 f2 f3 f4 f5 f6 l2
                go_wp2_with fail
                exact ⟨HZ.out, by simp [intOf]; omega⟩
            · have p1 : decide ((j : Int) < 4) = false := decide_eq_false (by omega)
              obtain rfl : j = 4 := by omega
              have HP : Aside0 (parV s.data.toList = .tuple #[stV ⟨1, t, (nvA r 0 : Nat), (nvA r 1 : Nat), (nvA r 2 : Nat), (nvA r 3 : Nat), []⟩, .int .i64 0]) := ⟨by
                refine par_st HW.out HT.out.2 ?_
                rw [HK.out, step_four HR4.out, if_pos (by simp [okA, hN.out 0 (by omega), hN.out 1 (by omega), hN.out 2 (by omega), hN.out 3 (by omega)]), HT.out.1]⟩
              have K8 : wr.heap[g8]? = some (.cells #[.int .i64 (nvA r 0 : Nat), .int .i64 (nvA r 1 : Nat), .int .i64 (nvA r 2 : Nat), .int .i64 (nvA r 3 : Nat)] 56 (0, 0)) := hE8.out
              obtain ⟨m0, hm0⟩ : ∃ m, m = nvA r 0 := ⟨_, rfl⟩
              obtain ⟨m1, hm1⟩ : ∃ m, m = nvA r 1 := ⟨_, rfl⟩
              obtain ⟨m2, hm2⟩ : ∃ m, m = nvA r 2 := ⟨_, rfl⟩
              obtain ⟨m3, hm3⟩ : ∃ m, m = nvA r 3 := ⟨_, rfl⟩
              rw [← hm0, ← hm1, ← hm2, ← hm3] at HP K8
              clear hm0 hm1 hm2 hm3 hE8 hN
              have a0 := blk_cell K8 0
              have a1 := blk_cell K8 1
              have a2 := blk_cell K8 2
              have a3 := blk_cell K8 3
              simp only [List.getElem?_toArray, List.getElem?_cons_zero, List.getElem?_cons_succ] at a0 a1 a2 a3
              obtain ⟨⟨c0, c1, c2, c3, c4, c5, c6⟩, f0, f1, f2, f3, f4, f5, f6⟩ := stcells hE2.out
              obtain ⟨⟨d0, d1, d2, d3, d4, d5, d6⟩, e0, e1, e2, e3, e4, e5, e6⟩ := stcells hE7.out
              have l2 := blk_ltI hE2.out
              have l7 := blk_ltI hE7.out
              have l8 := blk_ltI K8
              have h87 : g8 ≠ g7 := H8.out.1
              clear K8
              go_upto_region 24 with fail
              go_region
              obtain ⟨W6, hW6⟩ : ∃ W6, W6 = (((((wr.setCell ⟨g7, 0, none⟩ (.int .i64 1)).setCell ⟨g7, 2, none⟩ (.int .i64 (m0 : Int))).setCell ⟨g7, 3, none⟩ (.int .i64 (m1 : Int))).setCell ⟨g7, 4, none⟩ (.int .i64 (m2 : Int))).setCell ⟨g7, 5, none⟩ (.int .i64 (m3 : Int))).drew := ⟨_, rfl⟩
              have K7 : W6.heap[g7]? = some (.cells (stC 1 (t : Int) (m0 : Int) (m1 : Int) (m2 : Int) (m3 : Int) []) 26 (0, 0)) := by
                rw [hW6]
                have z0 := blk_set hE7.out 0 (.int .i64 1)
                simp only [stC, List.setIfInBounds_toArray, List.set_cons_zero, List.set_cons_succ] at z0
                have z1 := blk_set z0 2 (.int .i64 (m0 : Int))
                simp only [List.setIfInBounds_toArray, List.set_cons_zero, List.set_cons_succ] at z1
                have z2 := blk_set z1 3 (.int .i64 (m1 : Int))
                simp only [List.setIfInBounds_toArray, List.set_cons_zero, List.set_cons_succ] at z2
                have z3 := blk_set z2 4 (.int .i64 (m2 : Int))
                simp only [List.setIfInBounds_toArray, List.set_cons_zero, List.set_cons_succ] at z3
                have z4 := blk_set z3 5 (.int .i64 (m3 : Int))
                simp only [List.setIfInBounds_toArray, List.set_cons_zero, List.set_cons_succ] at z4
                exact z4
              have K2 : W6.heap[g2]? = some (.cells (stC 0 0 0 0 0 0 []) 26 (0, 0)) := by
                rw [hW6]
                exact stkeep (stkeep (stkeep (stkeep (stkeep hE2.out hne 0 _) hne 2 _) hne 3 _) hne 4 _) hne 5 _
              have HB6 : Aside0 (Below w.heap.size w W6) := ⟨by
                rw [hW6]
                exact (((((hBr.out.setCell (p := ⟨g7, 0, none⟩) HG7.out _).setCell (p := ⟨g7, 2, none⟩) HG7.out _).setCell (p := ⟨g7, 3, none⟩) HG7.out _).setCell (p := ⟨g7, 4, none⟩) HG7.out _).setCell (p := ⟨g7, 5, none⟩) HG7.out _).drew⟩
              rw [← hW6]
              clear hW6 a0 a1 a2 a3 c0 c1 c2 c3 c4 c5 c6 f0 f1 f2 f3 f4 f5 f6 d0 d1 d2 d3 d4 d5 d6 e0 e1 e2 e3 e4 e5 e6 l2 l7 l8 h87 hE7 hE2 hC2 hBr
              obtain ⟨⟨c0, c1, c2, c3, c4, c5, c6⟩, f0, f1, f2, f3, f4, f5, f6⟩ := stcells K2
              obtain ⟨⟨d0, d1, d2, d3, d4, d5, d6⟩, e0, e1, e2, e3, e4, e5, e6⟩ := stcells K7
              have l2 := blk_ltI K2
              have l7 := blk_ltI K7
              have HK2 := Aside0.mk K2
              clear K2 K7
              go_wp2_with fail
              refine bodyPost_ret (rparse_load g2 _ _ _ _ rfl rfl rfl (stset HK2.out _ _ _ _ _ _ _)) rfl ?_
              exact ⟨by rw [HP.out]; rfl, stbelow HB6.out (by rw [HG.out]; exact Nat.le_refl _) _ _ _ _ _ _ _⟩
        · have HP := Aside0.mk (par_no HW.out (step_default h3 h4 h5))
          have HQ : Aside0 (((k == [116]) = false ∨ ((k == [116]) = true ∧ ((n : Int) == 2) = false)) ∧ ((k == [102]) = false ∨ ((k == [102]) = true ∧ ((n : Int) == 3) = false)) ∧ ((k == [101]) = false ∨ ((k == [101]) = true ∧ ((n : Int) == 6) = false))) := by
            have hh : ∀ (x : List UInt8) (m : Nat), ¬ (k = x ∧ r.length = m) → ((k == x) = false ∨ ((k == x) = true ∧ ((n : Int) == ((m + 2 : Nat) : Int)) = false)) := by
              intro x m h
              by_cases hx : k = x
              · refine .inr ⟨by rw [hx]; simp, beq_eq_false_iff_ne.2 (fun e => h ⟨hx, ?_⟩)⟩
                have := HNR.out
                omega
              · exact .inl (beq_eq_false_iff_ne.2 hx)
            exact ⟨⟨hh [116] 0 h3, hh [102] 1 h4, hh [101] 4 h5⟩⟩
          clear h3 h4 h5
          obtain ⟨z1, z2, z3⟩ := HQ.out
          rcases z1 with q2 | ⟨q2, q3⟩ <;> rcases z2 with q4 | ⟨q4, q5⟩ <;> rcases z3 with q6 | ⟨q6, q7⟩
          all_goals
            go_wp2_with fail
            refine bodyPost_ret (rparse_load g2 _ _ _ _ rfl rfl rfl (stset H2.out _ _ _ _ _ _ _)) rfl ?_
            exact ⟨by rw [HP.out]; rfl, stbelow HB4.out (by rw [HG.out]; exact Nat.le_refl _) _ _ _ _ _ _ _⟩
end Go.Proofs.YtkjjjgplidompaaDoor.B
