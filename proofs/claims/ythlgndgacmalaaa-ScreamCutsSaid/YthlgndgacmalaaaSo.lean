/-
  The third controller: below the delay that is aimed at its window never shrinks; what a cut does. Plain laws.
-/
import Derived.Test.YthlgndgacmalaaaSp
namespace Go.Proofs.Ythlgndgacmalaaa.B
open Go.RowKit Go.Proofs.YthlgndgacmalaaaW.PrintWords Go.Proofs.YthlgndgacmalaaaW.PrintLast Go.Proofs.YthlgndgacmalaaaW.PrintMore
set_option linter.unusedVariables false
set_option linter.unusedSimpArgs false
/-- Of numbers from 0 on: the quotient, rounded to the nearest, and held. -/
theorem mdo_near {a b c : Int} (ha : 0 ≤ a) (hb : 0 ≤ b) (hc : 0 < c) : ∃ u : Int, (u = 0 ∨ u = 1) ∧ (a * b % c = 0 → u = 0) ∧ mdo a b c 2 = hold (a * b / c + u) := by
  unfold mdo quoN
  rw [if_neg (by omega), signB_pos ha hb (by omega), if_neg (by simp)]
  obtain ⟨x, rfl⟩ := Int.eq_ofNat_of_zero_le ha
  obtain ⟨y, rfl⟩ := Int.eq_ofNat_of_zero_le hb
  obtain ⟨z, rfl⟩ := Int.eq_ofNat_of_zero_le (show 0 ≤ c by omega)
  simp only [Int.natAbs_natCast]
  refine ⟨((upB (x * y % z) z false 2).toNat : Int), ?_, fun h0 => ?_, ?_⟩
  · cases upB (x * y % z) z false 2 <;> simp
  · have e : x * y % z = 0 := by
      have : ((x * y % z : Nat) : Int) = 0 := by rw [← h0]; simp
      omega
    rw [e]
    rfl
  · congr 1
theorem off_bounds {d : Int} (h0 : 0 ≤ d) (h1 : d ≤ 60000) : 0 ≤ Sc.off d ∧ Sc.off d ≤ 4294967297 ∧ (d = 60000 → Sc.off d = 0) := by
  unfold Sc.off
  have e1 : hold ((60000 - d) * 4294967296) = (60000 - d) * 4294967296 := hold_in (by omega) (by omega)
  have e2 : hold (60000 * 4294967296) = 257698037760000 := hold_in (by omega) (by omega)
  rw [e1, e2]
  obtain ⟨u, hu, hz, e⟩ := mdo_near (a := (60000 - d) * 4294967296) (b := 4294967296) (c := 257698037760000) (by omega) (by omega) (by omega)
  have hq0 : 0 ≤ (60000 - d) * 4294967296 * 4294967296 / 257698037760000 := by omega
  have hq1 : (60000 - d) * 4294967296 * 4294967296 / 257698037760000 ≤ 4294967296 := by omega
  rw [e, hold_in (by omega) (by omega)]
  refine ⟨by omega, by omega, fun hd => ?_⟩
  subst hd
  have := hz (by omega)
  omega
theorem by_bounds (s : Sc) {a d : Int} (ha0 : 0 ≤ a) (ha1 : a ≤ 16777216) (h0 : 0 ≤ d) (h1 : d ≤ 60000) (hw0 : 3000 ≤ s.win) (hw1 : s.win ≤ 2147486648) :
    0 ≤ s.by_ a d ∧ s.by_ a d ≤ 7000000 ∧ (d = 60000 → s.by_ a d = 0) := by
  obtain ⟨o0, o1, o2⟩ := off_bounds h0 h1
  unfold Sc.by_
  generalize Sc.off d = o at *
  have hv : 0 ≤ a * 1200 / s.win ∧ a * 1200 / s.win ≤ 6710886 := by
    refine ⟨Int.ediv_nonneg (by omega) (by omega), ?_⟩
    have : a * 1200 / s.win < 6710887 := Int.ediv_lt_of_lt_mul (by omega) (by omega)
    omega
  have e4 : mdo a 1200 s.win 1 = a * 1200 / s.win := by
    rw [mdo_down (by omega) (by omega) (by omega), hold_in] <;> omega
  rw [e4]
  generalize a * 1200 / s.win = v at *
  rw [hold_in (n := v * 4294967296) (by omega) (by omega)]
  obtain ⟨u, hu, hz, e⟩ := mdo_near (a := o) (b := v * 4294967296) (c := 4294967296) (by omega) (by omega) (by omega)
  have em : o * (v * 4294967296) = o * v * 4294967296 := by rw [← Int.mul_assoc]
  have hov0 : 0 ≤ o * v := Int.mul_nonneg o0 hv.1
  have hov1 : o * v ≤ 4294967297 * 6710886 := Int.mul_le_mul o1 hv.2 hv.1 (by omega)
  rw [em] at e hz
  have e6 : o * v * 4294967296 / 4294967296 = o * v := Int.mul_ediv_cancel _ (by omega)
  have e7 : o * v * 4294967296 % 4294967296 = 0 := Int.mul_emod_left _ _
  have hu0 := hz e7
  subst hu0
  rw [e6, Int.add_zero] at e
  have hzero : d = 60000 → o * v = 0 := fun hd => by rw [o2 hd, Int.zero_mul]
  generalize o * v = p at *
  rw [e, hold_in (by omega) (by omega), mdo_down hov0 (by omega) (by omega), hold_in (by omega) (by omega)]
  dsimp only
  rw [if_neg (by omega)]
  refine ⟨by omega, by omega, fun hd => ?_⟩
  have := hzero hd
  omega
structure CInv (lo hi : Int) (s : Sc) : Prop where
  b : BInv lo hi s
  cut : s.cut = false
theorem CInv.hear {lo hi : Int} {s : Sc} (h : CInv lo hi s) (hlh : lo ≤ hi) (h1 : 1 ≤ lo) (h2 : hi ≤ 17179869184) (x d r n : Int) (hd0 : 0 ≤ d) (hd1 : d ≤ 60000) :
    CInv lo hi (s.hear x d false false r n).1 ∧ min s.win (max 3000 (hi / 8)) ≤ (s.hear x d false false r n).1.win := by
  have hb := (h.b.hear hlh h1 h2 x d false false r n).1
  have hw0 := h.b.w0
  have hw1 := h.b.w1
  have hx := cl_range (a := x) (lo := 0) (hi := 16777216) (by omega)
  have e2 : cl d 0 1000000 = d := cl_in (by omega) (by omega)
  have hc : ¬ (s.cuts false false (cl r 1000 1000000) (cl n 0 1125899906842624) = true) := by simp [Sc.cuts]
  have hm : (s.main (cl x 0 16777216) (cl d 0 1000000) false false (cl r 1000 1000000) (cl n 0 1125899906842624)).cut = false ∧ s.win ≤ (s.main (cl x 0 16777216) (cl d 0 1000000) false false (cl r 1000 1000000) (cl n 0 1125899906842624)).win ∧
      (s.main (cl x 0 16777216) (cl d 0 1000000) false false (cl r 1000 1000000) (cl n 0 1125899906842624)).hi = hi := by
    refine ⟨?_, ?_, ?_⟩
    · unfold Sc.main
      rw [if_neg hc]
      split
      · split <;> exact h.cut
      · exact h.cut
    · unfold Sc.main
      rw [if_neg hc, e2]
      split
      · split
        · exact Int.le_refl _
        · show s.win ≤ wrap64 (s.win + _)
          unfold wrap64
          omega
      · obtain ⟨b0, b1, _⟩ := by_bounds s hx.1 hx.2 hd0 hd1 hw0 hw1
        show s.win ≤ wrap64 (s.win + s.by_ _ _)
        unfold wrap64
        omega
    · exact ((main_lohi s _ _ _ _ _ _).2).trans h.b.ehi
  obtain ⟨m1, m2, m3⟩ := hm
  refine ⟨⟨hb, ?_⟩, ?_⟩
  · exact m1
  · show _ ≤ max (min _ (mdo _ 1000000 8000000 1)) 3000
    rw [m3, most_eighth (by omega) h2]
    omega
/-- What a cut leaves, and that the next loss within a way's length cuts no more. -/
theorem cut_hear {lo hi : Int} {s : Sc} (h : CInv lo hi s) (hlh : lo ≤ hi) (h1 : 1 ≤ lo) (h2 : hi ≤ 17179869184) (lost : Bool) (n : Int) (hn0 : 0 ≤ n) (hn1 : n ≤ 1000000000) :
    ∃ s1 : Sc, s1 = (s.hear 1200 0 lost (!lost) 100000 n).1 ∧ BInv lo hi s1 ∧ s1.win = min (max (if lost = true then s.win * 4 / 5 else s.win * 9 / 10) 3000) (max 3000 (hi / 8)) ∧
      (s1.hear 0 60000 true true 100000 (n + 99999)).1.win = s1.win ∧ (s1.hear 0 60000 true true 100000 (n + 99999)).1.fast = false ∧ BInv lo hi (s1.hear 0 60000 true true 100000 (n + 99999)).1 := by
  refine ⟨_, rfl, ?_⟩
  have hb := (h.b.hear hlh h1 h2 1200 0 lost (!lost) 100000 n).1
  have hw0 := h.b.w0
  have hw1 := h.b.w1
  have er : cl 100000 1000 1000000 = 100000 := cl_in (by omega) (by omega)
  have en : cl n 0 1125899906842624 = n := cl_in (by omega) (by omega)
  have en2 : cl (n + 99999) 0 1125899906842624 = n + 99999 := cl_in (by omega) (by omega)
  have ed : cl 60000 0 1000000 = 60000 := cl_in (by omega) (by omega)
  have ea : cl 0 0 16777216 = 0 := cl_in (by omega) (by omega)
  have hc : s.cuts lost (!lost) 100000 n = true := by cases lost <;> simp [Sc.cuts, h.cut]
  have e45 : mdo s.win 4 5 1 = s.win * 4 / 5 := by rw [mdo_down (by omega) (by omega) (by omega), hold_in] <;> omega
  have e90 : mdo s.win 9 10 1 = s.win * 9 / 10 := by rw [mdo_down (by omega) (by omega) (by omega), hold_in] <;> omega
  have hm : s.main (cl 1200 0 16777216) (cl 0 0 1000000) lost (!lost) 100000 n = { s with win := if lost = true then s.win * 4 / 5 else s.win * 9 / 10, cut := true, cutAt := n, was := n, fast := false } := by
    unfold Sc.main
    rw [if_pos hc, e45, e90]
  obtain ⟨F, hF⟩ : ∃ F, F = (s.hear 1200 0 lost (!lost) 100000 n).1 := ⟨_, rfl⟩
  have fw : F.win = max (min (if lost = true then s.win * 4 / 5 else s.win * 9 / 10) (hi / 8)) 3000 := by
    rw [hF]
    unfold Sc.hear
    rw [er, en, hm]
    show max (min _ (mdo s.hi 1000000 8000000 1)) 3000 = _
    rw [h.b.ehi, most_eighth (by omega) h2]
  have fc : F.cut = true ∧ F.cutAt = n ∧ F.fast = false := by
    rw [hF]
    unfold Sc.hear
    rw [er, en, hm]
    exact ⟨rfl, rfl, rfl⟩
  rw [← hF] at hb ⊢
  refine ⟨hb, by rw [fw]; omega, ?_⟩
  have hb2 := (hb.hear hlh h1 h2 0 60000 true true 100000 (n + 99999)).1
  have hc2 : ¬ (F.cuts true true 100000 (n + 99999) = true) := by
    have : ¬ (100000 ≤ wrap64 (n + 99999 - F.cutAt)) := by rw [fc.2.1]; unfold wrap64; omega
    simp [Sc.cuts, fc.1, this]
  obtain ⟨_, _, hby⟩ := by_bounds F (a := 0) (d := 60000) (by omega) (by omega) (by omega) (by omega) hb.w0 hb.w1
  have hby := hby rfl
  have hm2 : F.main (cl 0 0 16777216) (cl 60000 0 1000000) true true 100000 (n + 99999) = { F with win := wrap64 (F.win + 0), fast := F.fast } := by
    unfold Sc.main
    rw [if_neg hc2, fc.2.2, if_neg (by simp), ea, ed]
    unfold Sc.slow
    rw [hby, if_neg (by omega), fc.2.2]
  have y0 := hb.w0
  have y1 := hb.w1
  have ew : wrap64 (F.win + 0) = F.win := by unfold wrap64; omega
  rw [ew] at hm2
  refine ⟨?_, ?_, hb2⟩
  · unfold Sc.hear
    rw [er, en2, hm2]
    show max (min F.win (mdo F.hi 1000000 8000000 1)) 3000 = _
    rw [hb.ehi, most_eighth (by omega) h2, fw]
    omega
  · unfold Sc.hear
    rw [er, en2, hm2]
    exact fc.2.2
end Go.Proofs.Ythlgndgacmalaaa.B
