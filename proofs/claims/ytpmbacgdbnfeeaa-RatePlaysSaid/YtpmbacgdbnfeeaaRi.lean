/-
  A meter's bounds: the law, walked.
-/
import Derived.Test.YtpmbacgdbnfeeaaRh
import Derived.Test.YtpmbacgdbnfeeaaKm
import Derived.Test.YtpmbacgdbnfeeaaFp
namespace Go.Proofs.Ytpmbacgdbnfeeaa.B
open Go.RowKit Go.Proofs.YtpmbacgdbnfeeaaW.PrintWords Go.Proofs.YtpmbacgdbnfeeaaW.PrintLast Go.Proofs.YtpmbacgdbnfeeaaW.PrintMore
set_option linter.unusedVariables false
set_option linter.unusedSimpArgs false
theorem down_bounds (S D : Int) (h0 : 0 ≤ S) (h1 : S ≤ 6144000) (hD : 1000 ≤ D) : 0 ≤ mdo S 8000000 D 1 ∧ mdo S 8000000 D 1 ≤ 8000 * S := by
  rw [mdo_down S 8000000 D (by omega)]
  have a0 : 0 ≤ S * 8000000 / D := Int.ediv_nonneg (by omega) (by omega)
  have a1 : S * 8000000 / D ≤ 8000 * S := by
    refine Int.ediv_le_of_le_mul (by omega) ?_
    have := Int.mul_le_mul_of_nonneg_left hD (show 0 ≤ 8000 * S by omega)
    omega
  rw [hold_in (by omega) (by omega)]
  exact ⟨a0, a1⟩
theorem Mt.rate_bounds {s : Mt} {k : Nat} (ho : MtOk s k) (hk : k ≤ 4096) (hw : 1000 ≤ s.window) : 0 ≤ s.rate ∧ s.rate ≤ 8000 * sumS s.l := by
  have hs := ho.sum
  have h1 : sumS s.l ≤ 6144000 := by omega
  unfold Mt.rate
  split
  · split
    · exact down_bounds _ _ hs.1 h1 hw
    · exact down_bounds _ _ hs.1 h1 (by omega)
  · omega
theorem Mt.loss_bounds (s : Mt) : 0 ≤ s.loss ∧ s.loss ≤ 256 := by
  unfold Mt.loss
  split
  · omega
  · rename_i h
    have h1 := lossN_le s.ls
    refine ⟨Int.ediv_nonneg (by omega) (by omega), Int.ediv_le_of_le_mul (by omega) (by omega)⟩
def BndOk (W : Int) (s : Mt) (k : Nat) : Prop := MtOk s k ∧ s.window = W ∧ (∀ p ∈ s.l, s.last - s.window < p.1)
theorem BndOk.made {W : Int} (h0 : 1 ≤ W) (h1 : W ≤ 1125899906842624) : BndOk W (Mt.made W) 0 := ⟨made_okM h0 h1, rfl, fun p hp => (List.not_mem_nil hp).elim⟩
theorem BndOk.got1 {W : Int} {s : Mt} {k : Nat} (h : BndOk W s k) {came size : Int} (hg : goodS came size = true) : BndOk W (s.got1 came size) (k + 1) := by
  refine ⟨h.1.got1 hg, h.2.1, fun p hp => ?_⟩
  exact of_decide_eq_true (List.mem_filter.1 hp).2
theorem BndOk.mono {W : Int} {s : Mt} {k k' : Nat} (h : BndOk W s k) (hk : k ≤ k') : BndOk W s k' := ⟨h.1.mono hk, h.2⟩
theorem lostN_fields (s : Mt) (n : Nat) : (s.lostN n).window = s.window ∧ (s.lostN n).any = s.any ∧ (s.lostN n).last = s.last ∧ (s.lostN n).first = s.first ∧ (s.lostN n).l = s.l := by
  induction n with
  | zero => exact ⟨rfl, rfl, rfl, rfl, rfl⟩
  | succ n ih => exact ih
theorem lost_fields (s : Mt) (n : Int) : (s.lost n).window = s.window ∧ (s.lost n).any = s.any ∧ (s.lost n).last = s.last ∧ (s.lost n).first = s.first ∧ (s.lost n).l = s.l := by
  unfold Mt.lost
  split
  · exact lostN_fields s _
  · exact ⟨rfl, rfl, rfl, rfl, rfl⟩
theorem BndOk.lost {W : Int} {s : Mt} {k : Nat} (h : BndOk W s k) (n : Int) : BndOk W (s.lost n) k := by
  obtain ⟨e1, e2, e3, e4, e5⟩ := lost_fields s n
  refine ⟨h.1.lost n, by rw [e1]; exact h.2.1, ?_⟩
  rw [e5, e3, e1]
  exact h.2.2
/-- What is too late changes nothing. -/
theorem late_same {W : Int} {s : Mt} {k : Nat} (h : BndOk W s k) (hf : s.full = true) (came : Int) (hc : came ≤ s.last - W) : (s.got came 1500).l = s.l ∧ (s.got came 1500).rate = s.rate := by
  unfold Mt.got
  split
  · simp only [Mt.full, Bool.and_eq_true, decide_eq_true_eq] at hf
    obtain ⟨ha, hfull⟩ := hf
    have hw := h.2.1
    have hw0 := h.1.w0
    have el : s.lastOf came = s.last := by unfold Mt.lastOf; rw [if_pos ha]; omega
    have ef : s.firstOf came ≤ s.first := by unfold Mt.firstOf; rw [if_pos ha]; omega
    have e1 : (s.got1 came 1500).l = s.l := by
      show (s.l ++ [(came, 1500)]).filter _ = s.l
      rw [el, List.filter_append, List.filter_eq_self.2 (fun p hp => decide_eq_true (h.2.2 p hp)), List.filter_cons_of_neg (by simp; omega)]
      simp
    refine ⟨e1, ?_⟩
    have f1 : (s.got1 came 1500).full = true := by
      have : s.window ≤ s.lastOf came - s.firstOf came := by rw [el]; omega
      simp [Mt.full, Mt.got1, this]
    have f2 : s.full = true := by simp [Mt.full, ha, hfull]
    have ea : (s.got1 came 1500).any = true := rfl
    have ew : (s.got1 came 1500).window = s.window := rfl
    unfold Mt.rate
    rw [if_pos ea, if_pos f1, if_pos ha, if_pos f2, e1, ew]
  · exact ⟨rfl, rfl⟩
def RStepAt (w : World) (ad : Addr) (i : Nat) (c0 c1 c2 : Int) : Prop :=
  w.cell? (ad.add (i * 3)) = some (.int .i64 c0) ∧ w.cell? ⟨(ad.add (i * 3)).block, (ad.add (i * 3)).off + 1, none⟩ = some (.int .i64 c1) ∧ w.cell? ⟨(ad.add (i * 3)).block, (ad.add (i * 3)).off + 2, none⟩ = some (.int .i64 c2) ∧ I64 c0 ∧ I64 c1 ∧ I64 c2
def RStepsAt (w : World) (A : Option Addr) (n : Nat) : Prop := ∀ i, i < n → ∃ (ad : Addr) (c0 : Int) (c1 : Int) (c2 : Int), A = some ad ∧ RStepAt w ad i c0 c1 c2
theorem rstepsAt_of {w : World} {A : Option Addr} {n : Nat} (h : ∀ i, i < n → ∃ (ad : Addr) (c0 : Int) (c1 : Int) (c2 : Int), A = some ad ∧ w.cell? (ad.add (i * 3 + 0)) = some (.int .i64 c0) ∧ I64 c0 ∧ w.cell? (ad.add (i * 3 + 1)) = some (.int .i64 c1) ∧ I64 c1 ∧ w.cell? (ad.add (i * 3 + 2)) = some (.int .i64 c2) ∧ I64 c2) : RStepsAt w A n := by
  intro i hi
  obtain ⟨ad, c0, c1, c2, e, g0, i0, g1, i1, g2, i2⟩ := h i hi
  refine ⟨ad, c0, c1, c2, e, g0, ?_, ?_, i0, i1, i2⟩
  · rw [← add_field _ _ 1 (by omega)]; exact g1
  · rw [← add_field _ _ 2 (by omega)]; exact g2
def BndRel (w1 : World) (base g : Nat) (W : Int) (n : Nat) (v10 v11 v12 : Value) (wr : World) : Prop :=
  ∃ (k : Nat) (s : Mt) (E : Int), v12 = .int .i64 k ∧ v11 = .bool s.any ∧ v10 = .int .i64 E ∧ k ≤ n ∧ k ≤ 200 ∧ (-1125899906842624 ≤ E ∧ E ≤ 1125899906842624) ∧ (s.any = true → E = s.last) ∧ Aside0 (BndOk W s k) ∧ Aside0 (MRun w1 wr base g s)
set_option maxHeartbeats 8000000 in
set_option maxRecDepth 100000 in
theorem bounds_walk (window late : Int) (A : Option Addr) (n c : Nat) (w : World) (hwi : I64 window) (hla : I64 late) (hn : n ≤ 9223372036854775807) (hl : RStepsAt w A n) :
    Calls Try.prog 4 #[.int .i64 window, .slice A n c, .int .i64 late] w fun e w' => e = .returned (.bool true) ∧ Below w.heap.size w w' := by
  have HL := Aside0.mk hl
  have KW := Aside0.mk (fun w => kmod64_any window 1073741824 hwi (by omega) (by omega) w)
  have KL := Aside0.mk (fun w => kmod_any late 1000 hla (by omega) (by omega) w)
  obtain ⟨W0, hW0⟩ : ∃ W0, W0 = window % 1073741824 := ⟨_, rfl⟩
  obtain ⟨L0, hL0⟩ : ∃ L0, L0 = late % 1000 := ⟨_, rfl⟩
  rw [← hW0] at KW
  rw [← hL0] at KL
  have hW1 : 0 ≤ W0 ∧ W0 ≤ 1073741823 := by omega
  have hL1 : 0 ≤ L0 ∧ L0 ≤ 999 := by omega
  obtain ⟨hW1, hW2⟩ := hW1
  obtain ⟨hL1, hL2⟩ := hL1
  clear hl hwi hla hW0 hL0
  go_enter Try.func4, Try.ntmps4
  go_wp2_with fail
  refine (KW.out _).mono ?_
  rintro e w ⟨rfl, rfl⟩
  go_wp2_with fail
  refine (mnew_good (1000 + W0) w.heap.size w (by omega) (by omega) (Nat.le_refl _)).mono ?_
  rintro e w1 ⟨g, rfl, hM, hg, hB⟩
  have hB0 := hB.size
  have HR := Aside0.mk (MRun.start hM)
  have HB := Aside0.mk hB
  clear hM hB
  go_wp2_with fail
  go_loopw [10, 11, 12] (fun v10 v11 v12 wr => BndRel w1 w.heap.size g (1000 + W0) n v10 v11 v12 wr) (fun _ _ v _ => n - (intOf v).toNat)
  case atStart => exact ⟨0, Mt.made (1000 + W0), 0, rfl, rfl, rfl, by omega, by omega, by omega, fun h => (by cases h), ⟨BndOk.made (by omega) (by omega)⟩, HR⟩
  case round =>
    obtain ⟨k, s, E, rfl, rfl, rfl, hk, hk2, hE, hEl, hO, hS⟩ := hrel
    by_cases hlt : k < n ∧ k < 200
    · obtain ⟨hkn, hk200⟩ := hlt
      have HEl := Aside0.mk hEl
      clear hEl
      obtain ⟨ad, c0, c1, c2, rfl, g0, g1, g2, i0, i1, i2⟩ := HL.out k hkn
      have hadb : (ad.add (k * 3)).block < w.heap.size := World.block_lt_of_cell? w _ g0
      have hcell : ∀ (p : Addr) (v : Value), p.block < w.heap.size → w.cell? p = some v → wr.cell? p = some v := by
        intro p v hp hc
        have e1 : wr.heap[p.block]? = w1.heap[p.block]? := hS.out.touch.block _ (by omega) (by omega)
        have e2 : w1.heap[p.block]? = w.heap[p.block]? := HB.out.block _ hp
        rw [World.cell?_of_block (w := w) (e1.trans e2)]
        exact hc
      have t0 := hcell _ _ hadb g0
      have t1 := hcell ⟨(ad.add (k * 3)).block, (ad.add (k * 3)).off + 1, none⟩ _ hadb g1
      have t2 := hcell ⟨(ad.add (k * 3)).block, (ad.add (k * 3)).off + 2, none⟩ _ hadb g2
      have K1 := Aside0.mk (fun w => kmod_any c1 1501 i1 (by omega) (by omega) w)
      have K9 := Aside0.mk (fun w => kmod_any c1 9 i1 (by omega) (by omega) w)
      obtain ⟨Z, hZ⟩ : ∃ Z, Z = c1 % 1501 := ⟨_, rfl⟩
      obtain ⟨Y, hY⟩ : ∃ Y, Y = c1 % 9 := ⟨_, rfl⟩
      rw [← hZ] at K1
      rw [← hY] at K9
      have hZ0 : 0 ≤ Z ∧ Z ≤ 1500 := by omega
      obtain ⟨hZ0, hZ1⟩ := hZ0
      obtain ⟨C, hC⟩ : ∃ C, C = c2.tmod 1099511627776 := ⟨_, rfl⟩
      have hC1 : C < 1099511627776 := by rw [hC]; exact Int.tmod_lt_of_pos _ (by omega)
      have hC0 : -1099511627776 < C := by rw [hC]; exact Int.lt_tmod_of_pos _ (by omega)
      have HC := Aside0.mk hC
      have hSa := Aside0.mk (hS.out.below ((Below.refl _ _).alloc (Nat.le_refl _) (.cells #[.int .i64 c0, .int .i64 c1, .int .i64 c2] 31)))
      have hb2 := i2.1
      have hb3 := i2.2
      clear g0 g1 g2 hcell hZ hY hC i0 i1 i2
      by_cases h0 : c0 = 0
      · subst h0
        go_wp2_with fail
        go_quiet ((go_at_call 24; exact Calls.quiet_of_same (K1.out _)))
        rw [← HC.out]
        have hSd := Aside0.mk (hSa.out.below (pw_below_drewN (Below.refl _ _) nq))
        go_wp2_with fail
        refine (mrun_got C Z hSd.out hO.out.1 (by omega)).mono ?_
        rintro e w3 ⟨rfl, h3⟩
        have hg1 : goodS C Z = true := by simp only [goodS, decide_eq_true_eq]; omega
        rw [Mt.got, if_pos hg1] at h3
        have O3 := Aside0.mk (hO.out.got1 hg1)
        have HS3 := Aside0.mk h3
        have hrb := Mt.rate_bounds O3.out.1 (by omega) (by rw [O3.out.2.1]; omega)
        have hlb := Mt.loss_bounds (s.got1 C Z)
        have hsb := O3.out.1.sum
        have hcs : s.any = false ∨ (s.any = true ∧ E < C) ∨ (s.any = true ∧ ¬ E < C) := by cases s.any <;> by_cases hh : E < C <;> simp [hh]
        have HE2 : Aside0 (((s.any = false ∨ E < C) → C = (s.got1 C Z).last) ∧ (s.any = true → ¬ E < C → E = (s.got1 C Z).last)) := ⟨by
          have := HEl.out
          show ((s.any = false ∨ E < C) → C = s.lastOf C) ∧ (s.any = true → ¬ E < C → E = s.lastOf C)
          unfold Mt.lastOf
          cases hb : s.any
          · simp
          · rw [hb] at this
            have := this rfl
            simp only [Bool.true_eq_false, false_or, forall_const, if_true]
            omega⟩
        obtain ⟨RR, hRR⟩ : ∃ R, R = (s.got1 C Z).rate := ⟨_, rfl⟩
        obtain ⟨BB, hBB⟩ : ∃ R, R = sumS (s.got1 C Z).l := ⟨_, rfl⟩
        obtain ⟨LL, hLL⟩ : ∃ R, R = (s.got1 C Z).loss := ⟨_, rfl⟩
        rw [← hRR, ← hBB] at hrb
        rw [← hBB] at hsb
        rw [← hLL] at hlb
        obtain ⟨hrb0, hrb1⟩ := hrb
        obtain ⟨hlb0, hlb1⟩ := hlb
        obtain ⟨hsb0, hsb1⟩ := hsb
        have HRR := Aside0.mk hRR
        have HBB := Aside0.mk hBB
        have HLL := Aside0.mk hLL
        have q0 : decide (RR < 0) = false := decide_eq_false (by omega)
        have q1 : decide (8000 * BB < RR) = false := decide_eq_false (by omega)
        have q2 : decide (LL < 0) = false := decide_eq_false (by omega)
        have q3 : decide (256 < LL) = false := decide_eq_false (by omega)
        have hBu : BB ≤ 6144000 := by omega
        clear h3 t0 t1 t2 hRR hBB hLL hsb1 hrb1
        rcases hcs with hb | ⟨hb, hlc⟩ | ⟨hb, hlc⟩
        · have He := Aside0.mk (HE2.out.1 (.inl hb))
          rw [hb]
          clear hb
          go_wp2_with fail
          refine (mrun_rate HS3.out O3.out.1 (by omega)).mono ?_
          rintro e w4 ⟨rfl, h4, _⟩
          have H4 := Aside0.mk h4
          rw [← HRR.out]
          clear h4
          go_wp2_with fail
          refine (mrun_rate H4.out O3.out.1 (by omega)).mono ?_
          rintro e w5 ⟨rfl, h5, _⟩
          have H5 := Aside0.mk h5
          rw [← HRR.out]
          clear h5
          go_wp2_with fail
          refine (mrun_bytes H5.out).mono ?_
          rintro e w6 ⟨rfl, h6, _⟩
          have H6 := Aside0.mk h6
          rw [← HBB.out]
          clear h6
          go_wp2_with fail
          refine (mrun_loss H6.out O3.out.1).mono ?_
          rintro e w7 ⟨rfl, h7, _⟩
          have H7 := Aside0.mk h7
          rw [← HLL.out]
          clear h7
          go_wp2_with fail
          refine (mrun_loss H7.out O3.out.1).mono ?_
          rintro e w8 ⟨rfl, h8, _⟩
          have H8 := Aside0.mk h8
          rw [← HLL.out]
          clear h8
          go_wp2_with fail
          exact ⟨⟨k + 1, s.got1 C Z, C, by simp, rfl, rfl, by omega, by omega, by omega, fun _ => He.out, O3, H8⟩, by simp [intOf]; omega⟩
        · have He := Aside0.mk (HE2.out.1 (.inr hlc))
          rw [hb]
          clear hb
          have dl : decide (E < C) = true := decide_eq_true hlc
          go_wp2_with fail
          refine (mrun_rate HS3.out O3.out.1 (by omega)).mono ?_
          rintro e w4 ⟨rfl, h4, _⟩
          have H4 := Aside0.mk h4
          rw [← HRR.out]
          clear h4
          go_wp2_with fail
          refine (mrun_rate H4.out O3.out.1 (by omega)).mono ?_
          rintro e w5 ⟨rfl, h5, _⟩
          have H5 := Aside0.mk h5
          rw [← HRR.out]
          clear h5
          go_wp2_with fail
          refine (mrun_bytes H5.out).mono ?_
          rintro e w6 ⟨rfl, h6, _⟩
          have H6 := Aside0.mk h6
          rw [← HBB.out]
          clear h6
          go_wp2_with fail
          refine (mrun_loss H6.out O3.out.1).mono ?_
          rintro e w7 ⟨rfl, h7, _⟩
          have H7 := Aside0.mk h7
          rw [← HLL.out]
          clear h7
          go_wp2_with fail
          refine (mrun_loss H7.out O3.out.1).mono ?_
          rintro e w8 ⟨rfl, h8, _⟩
          have H8 := Aside0.mk h8
          rw [← HLL.out]
          clear h8
          go_wp2_with fail
          exact ⟨⟨k + 1, s.got1 C Z, C, by simp, rfl, rfl, by omega, by omega, by omega, fun _ => He.out, O3, H8⟩, by simp [intOf]; omega⟩
        · have He := Aside0.mk (HE2.out.2 hb hlc)
          rw [hb]
          clear hb
          have dl : decide (E < C) = false := decide_eq_false hlc
          go_wp2_with fail
          refine (mrun_rate HS3.out O3.out.1 (by omega)).mono ?_
          rintro e w4 ⟨rfl, h4, _⟩
          have H4 := Aside0.mk h4
          rw [← HRR.out]
          clear h4
          go_wp2_with fail
          refine (mrun_rate H4.out O3.out.1 (by omega)).mono ?_
          rintro e w5 ⟨rfl, h5, _⟩
          have H5 := Aside0.mk h5
          rw [← HRR.out]
          clear h5
          go_wp2_with fail
          refine (mrun_bytes H5.out).mono ?_
          rintro e w6 ⟨rfl, h6, _⟩
          have H6 := Aside0.mk h6
          rw [← HBB.out]
          clear h6
          go_wp2_with fail
          refine (mrun_loss H6.out O3.out.1).mono ?_
          rintro e w7 ⟨rfl, h7, _⟩
          have H7 := Aside0.mk h7
          rw [← HLL.out]
          clear h7
          go_wp2_with fail
          refine (mrun_loss H7.out O3.out.1).mono ?_
          rintro e w8 ⟨rfl, h8, _⟩
          have H8 := Aside0.mk h8
          rw [← HLL.out]
          clear h8
          go_wp2_with fail
          exact ⟨⟨k + 1, s.got1 C Z, E, by simp, rfl, rfl, by omega, by omega, by omega, fun _ => He.out, O3, H8⟩, by simp [intOf]; omega⟩
      · have d0 : (c0 == 0) = false := beq_eq_false_iff_ne.2 h0
        go_wp2_with fail
        go_quiet ((go_at_call 24; exact Calls.quiet_of_same (K1.out _)))
        rw [← HC.out]
        have hSd := Aside0.mk (hSa.out.below (pw_below_drewN (Below.refl _ _) nq))
        go_wp2_with fail
        refine (K9.out _).mono ?_
        rintro e w3 ⟨rfl, hw3⟩
        obtain rfl := hw3.symm
        go_wp2_with fail
        refine (mrun_lost Y hSd.out hO.out.1).mono ?_
        rintro e w4 ⟨rfl, h4⟩
        have H4 := Aside0.mk h4
        have O4 := Aside0.mk ((hO.out.lost Y).mono (Nat.le_succ k))
        have HE4 : Aside0 ((s.lost Y).any = true → E = (s.lost Y).last) := ⟨by
          obtain ⟨e1, e2, e3, e4, e5⟩ := lost_fields s Y
          rw [e2, e3]
          exact HEl.out⟩
        have hany : s.any = (s.lost Y).any := (lost_fields s Y).2.1.symm
        rw [hany]
        clear h4 hany
        go_wp2_with fail
        exact ⟨⟨k + 1, s.lost Y, E, by simp, rfl, rfl, by omega, by omega, by omega, HE4.out, O4, H4⟩, by simp [intOf]; omega⟩
    · have hb1 : Aside0 (∀ w', MRun w1 w' w.heap.size g s → ∀ w'', Below w'.heap.size w' w'' → Below w.heap.size w w'') := ⟨by
        intro w' h w'' h2
        exact (HB.out.trans (h.touch.toBelow HB.out.size (fun i hi => by omega))).trans (h2.mono (Nat.le_trans HB.out.size h.touch.size))⟩
      have HEl := Aside0.mk hEl
      clear hEl
      by_cases hkn : k < n
      · have hk200 : ¬ k < 200 := by omega
        clear hlt
        cases hb : s.any
        · clear hb
          go_wp2_with fail
          refine (wakes_any _).mono ?_
          rintro e w9 ⟨rfl, hB9⟩
          go_wp2_with fail
          go_ret
          exact ⟨rfl, hb1.out _ hS.out _ hB9⟩
        · have he := HEl.out hb
          have He := Aside0.mk he
          clear hb he
          go_wp2_with fail
          refine (mrun_full hS.out hO.out.1).mono ?_
          rintro e w4 ⟨rfl, h4, _⟩
          have H4 := Aside0.mk h4
          clear h4
          cases hf : s.full
          · clear hf
            go_wp2_with fail
            refine (wakes_any _).mono ?_
            rintro e w9 ⟨rfl, hB9⟩
            go_wp2_with fail
            go_ret
            exact ⟨rfl, hb1.out _ H4.out _ hB9⟩
          · have HLS := Aside0.mk (late_same hO.out hf (E - (1000 + W0) - L0) (by rw [He.out]; omega))
            have HO5 := Aside0.mk (hO.out.1.got (E - (1000 + W0) - L0) 1500)
            clear hf
            obtain ⟨RR, hRR⟩ : ∃ R, R = s.rate := ⟨_, rfl⟩
            obtain ⟨BB, hBB⟩ : ∃ R, R = sumS s.l := ⟨_, rfl⟩
            have HRR := Aside0.mk hRR
            have HBB := Aside0.mk hBB
            clear hRR hBB
            obtain ⟨hE0, hE1⟩ := hE
            go_wp2_with fail
            refine (mrun_rate H4.out hO.out.1 (by omega)).mono ?_
            rintro e w5 ⟨rfl, h5, _⟩
            have H5 := Aside0.mk h5
            rw [← HRR.out]
            clear h5
            go_wp2_with fail
            refine (mrun_bytes H5.out).mono ?_
            rintro e w6 ⟨rfl, h6, _⟩
            have H6 := Aside0.mk h6
            rw [← HBB.out]
            clear h6
            go_wp2_with fail
            refine (KL.out _).mono ?_
            rintro e wx ⟨rfl, hwx⟩
            obtain rfl := hwx.symm
            go_wp2_with fail
            refine (mrun_got (E - (1000 + W0) - L0) 1500 H6.out hO.out.1 (by omega)).mono ?_
            rintro e w7 ⟨rfl, h7⟩
            have H7 := Aside0.mk h7
            clear h7
            go_wp2_with fail
            refine (mrun_rate H7.out HO5.out (by omega)).mono ?_
            rintro e w8 ⟨rfl, h8, _⟩
            have H8 := Aside0.mk h8
            rw [HLS.out.2, ← HRR.out]
            clear h8
            go_wp2_with fail
            refine (mrun_bytes H8.out).mono ?_
            rintro e w9 ⟨rfl, h9, _⟩
            have H9 := Aside0.mk h9
            rw [HLS.out.1, ← HBB.out]
            clear h9
            go_wp2_with fail
            have hb2 := HB.out.trans (H9.out.touch.toBelow HB.out.size (fun i hi => by omega))
            refine (wakes_any _).mono ?_
            rintro e w10 ⟨rfl, hB10⟩
            go_wp2_with fail
            go_ret
            exact ⟨rfl, hb2.trans (hB10.mono (Nat.le_trans HB.out.size H9.out.touch.size))⟩
      · clear hlt
        cases hb : s.any
        · clear hb
          go_wp2_with fail
          refine (wakes_any _).mono ?_
          rintro e w9 ⟨rfl, hB9⟩
          go_wp2_with fail
          go_ret
          exact ⟨rfl, hb1.out _ hS.out _ hB9⟩
        · have he := HEl.out hb
          have He := Aside0.mk he
          clear hb he
          go_wp2_with fail
          refine (mrun_full hS.out hO.out.1).mono ?_
          rintro e w4 ⟨rfl, h4, _⟩
          have H4 := Aside0.mk h4
          clear h4
          cases hf : s.full
          · clear hf
            go_wp2_with fail
            refine (wakes_any _).mono ?_
            rintro e w9 ⟨rfl, hB9⟩
            go_wp2_with fail
            go_ret
            exact ⟨rfl, hb1.out _ H4.out _ hB9⟩
          · have HLS := Aside0.mk (late_same hO.out hf (E - (1000 + W0) - L0) (by rw [He.out]; omega))
            have HO5 := Aside0.mk (hO.out.1.got (E - (1000 + W0) - L0) 1500)
            clear hf
            obtain ⟨RR, hRR⟩ : ∃ R, R = s.rate := ⟨_, rfl⟩
            obtain ⟨BB, hBB⟩ : ∃ R, R = sumS s.l := ⟨_, rfl⟩
            have HRR := Aside0.mk hRR
            have HBB := Aside0.mk hBB
            clear hRR hBB
            obtain ⟨hE0, hE1⟩ := hE
            go_wp2_with fail
            refine (mrun_rate H4.out hO.out.1 (by omega)).mono ?_
            rintro e w5 ⟨rfl, h5, _⟩
            have H5 := Aside0.mk h5
            rw [← HRR.out]
            clear h5
            go_wp2_with fail
            refine (mrun_bytes H5.out).mono ?_
            rintro e w6 ⟨rfl, h6, _⟩
            have H6 := Aside0.mk h6
            rw [← HBB.out]
            clear h6
            go_wp2_with fail
            refine (KL.out _).mono ?_
            rintro e wx ⟨rfl, hwx⟩
            obtain rfl := hwx.symm
            go_wp2_with fail
            refine (mrun_got (E - (1000 + W0) - L0) 1500 H6.out hO.out.1 (by omega)).mono ?_
            rintro e w7 ⟨rfl, h7⟩
            have H7 := Aside0.mk h7
            clear h7
            go_wp2_with fail
            refine (mrun_rate H7.out HO5.out (by omega)).mono ?_
            rintro e w8 ⟨rfl, h8, _⟩
            have H8 := Aside0.mk h8
            rw [HLS.out.2, ← HRR.out]
            clear h8
            go_wp2_with fail
            refine (mrun_bytes H8.out).mono ?_
            rintro e w9 ⟨rfl, h9, _⟩
            have H9 := Aside0.mk h9
            rw [HLS.out.1, ← HBB.out]
            clear h9
            go_wp2_with fail
            have hb2 := HB.out.trans (H9.out.touch.toBelow HB.out.size (fun i hi => by omega))
            refine (wakes_any _).mono ?_
            rintro e w10 ⟨rfl, hB10⟩
            go_wp2_with fail
            go_ret
            exact ⟨rfl, hb2.trans (hB10.mono (Nat.le_trans HB.out.size H9.out.touch.size))⟩
theorem bounds_true (window : Int) (A : Option Addr) (n c : Nat) (late : Int) (w : World) (hwi : I64 window) (h1 : n ≤ c) (h2 : c ≤ maxLen) (hl : ∀ i, i < n → ∃ (ad : Addr) (c0 : Int) (c1 : Int) (c2 : Int), A = some ad ∧ w.cell? (ad.add (i * 3 + 0)) = some (.int .i64 c0) ∧ I64 c0 ∧ w.cell? (ad.add (i * 3 + 1)) = some (.int .i64 c1) ∧ I64 c1 ∧ w.cell? (ad.add (i * 3 + 2)) = some (.int .i64 c2) ∧ I64 c2) (hla : I64 late) :
    Calls Try.prog 4 #[.int .i64 window, .slice A n c, .int .i64 late] w fun e w' => e = .returned (.bool true) ∧ Below w.heap.size w w' :=
  bounds_walk window late A n c w hwi hla (by unfold maxLen at h2; omega) (rstepsAt_of hl)
end Go.Proofs.Ytpmbacgdbnfeeaa.B
