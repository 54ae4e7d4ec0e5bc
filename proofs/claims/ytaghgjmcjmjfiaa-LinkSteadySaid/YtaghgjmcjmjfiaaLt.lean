/-
  The way with one queue: packets of one size. Walk over the program.
-/
import Derived.Test.YtaghgjmcjmjfiaaLs
namespace Go.Proofs.Ytaghgjmcjmjfiaa.B
open Go.RowKit Go.Proofs.YtaghgjmcjmjfiaaW.PrintWords Go.Proofs.YtaghgjmcjmjfiaaW.PrintLast Go.Proofs.YtaghgjmcjmjfiaaW.PrintMore
set_option linter.unusedVariables false
set_option linter.unusedSimpArgs false
/-- What is known of the way behind i packets. -/
def SdIs (r E gap : Int) (i : Nat) (y : Wy) : Prop := y.rate = r ∧ y.free = sdFree E gap i ∧ y.last ≤ (i : Int) * gap ∧ y.q.length = i
theorem sd_in {w0 w : World} {g : Nat} {y : Wy} (r s E gap : Int) (i : Nat) (h : WyRun w0 w g y) (hy : SdIs r E gap i y) (hi : i < 255) (hs0 : 0 ≤ s) (hs1 : s ≤ 1500) (hr0 : 1000 ≤ r) (hr1 : r ≤ 100001000) (hE : E = mdo s 8000000 r 3) (hg : 0 ≤ gap) (hg1 : gap ≤ 24000000) :
    Calls Try.prog 11 #[.pointer (some ⟨g, 0, none⟩), .int .i64 (i : Int), .int .i64 s, .int .i64 ((i : Int) * gap)] w fun e w' => e = .returned (.bool true) ∧ ∃ y', WyRun w0 w' g y' ∧ SdIs r E gap (i + 1) y' := by
  obtain ⟨h1, h2, h3, h4⟩ := hy
  have he := tk_le r s hr0 hs0 hs1
  have hE2 : tk r s = E := hE.symm
  rw [hE2] at he
  have b2 := Int.mul_le_mul (show (i : Int) ≤ 255 by omega) hg1 hg (by omega)
  have b3 := Int.mul_nonneg (Int.natCast_nonneg i) hg
  have hf := sd_free E gap i hi he.1 he.2 hg hg1
  have hrr : I64 y.rate := by rw [h1]; unfold I64; omega
  refine (in_run (i : Int) s ((i : Int) * gap) h (by omega) (by omega) hs0 hs1 h3 (by omega) (by omega) hrr).mono ?_
  rintro e w' ⟨rfl, hW⟩
  refine ⟨rfl, _, hW, ?_⟩
  rw [h1, ← hE]
  have e1 : ((i + 1 : Nat) : Int) * gap = (i : Int) * gap + gap := by push_cast; rw [Int.add_mul, Int.one_mul]
  refine ⟨h1, ?_, ?_, ?_⟩
  · show wrap64 (max y.free _ + E) = _
    rw [h2]
    exact hf
  · show (i : Int) * gap ≤ _
    rw [e1]
    omega
  · show (y.q ++ [_]).length = _
    rw [List.length_append, h4]
    rfl
theorem sd_waits {w0 w : World} {g : Nat} {y : Wy} (r E gap : Int) (i : Nat) (h : WyRun w0 w g y) (hy : SdIs r E gap i y) (hi : i < 256) (he0 : 0 ≤ E) (he1 : E ≤ 12000000) (hg : 0 ≤ gap) (hg1 : gap ≤ 24000000) :
    Calls Try.prog 13 #[.pointer (some ⟨g, 0, none⟩), .int .i64 ((i : Int) * gap)] w fun e w' => e = .returned (.int .i64 (max 0 ((i : Int) * (E - gap)))) ∧ WyRun w0 w' g y := by
  obtain ⟨h1, h2, h3, h4⟩ := hy
  have b2 := Int.mul_le_mul (show (i : Int) ≤ 255 by omega) hg1 hg (by omega)
  have b3 := Int.mul_nonneg (Int.natCast_nonneg i) hg
  have b4 := Int.mul_le_mul (show (i : Int) ≤ 255 by omega) he1 he0 (by omega)
  have b5 := Int.mul_nonneg (Int.natCast_nonneg i) he0
  have hf : I64 y.free := by
    rw [h2]
    unfold sdFree I64
    have e7 : ((i : Int) - 1) * gap = (i : Int) * gap - gap := by rw [Int.sub_mul, Int.one_mul]
    rw [e7]
    split
    · omega
    · split <;> omega
  have hc := wait_run ((i : Int) * gap) h.rr hf (by unfold I64; omega)
  rw [h2, sd_wait E gap i hi he0 he1 hg hg1] at hc
  refine hc.mono ?_
  rintro e w' ⟨he, hb⟩
  exact ⟨he, h.below hb⟩
def SdRel (w : World) (g n : Nat) (r E gap : Int) (v : Value) (wr : World) : Prop := ∃ (i : Nat) (y : Wy), v = .int .i64 (i : Int) ∧ i ≤ n ∧ Aside0 (WyRun w wr g y) ∧ Aside0 (SdIs r E gap i y)
theorem goodLk_rate (r : Int) (h0 : 1000 ≤ r) (h1 : r ≤ 100001000) : goodLk r 0 0 0 = true := by
  unfold goodLk
  rw [decide_eq_true h0, decide_eq_true (show r ≤ 17179869184 by omega)]
  decide
set_option maxHeartbeats 2000000 in
theorem steady_walk (rate gp size r s E gap : Int) (n : Nat) (w : World) (hn : n ≤ 255) (hr : r = 1000 + rate % 100000000) (hs : s = 1 + size % 1500) (hE : E = mdo s 8000000 r 3) (hgap : gap = gp % (2 * E + 1)) (hrate : U32 rate) (hgp : U32 gp) (hz : U16 size) :
    Calls Try.prog 6 #[.agg #[.int .u32 rate, .int .u32 gp], .int .u16 size, .int .u8 (n : Int)] w fun e w' => e = .returned (.bool true) ∧ Below w.heap.size w w' := by
  have hl0 := hrate.1
  have hl1 := hrate.2
  have hg0 := hgp.1
  have hg1 := hgp.2
  have hz0 := hz.1
  have hz1 := hz.2
  have hr0 : 1000 ≤ r := by omega
  have hr1 : r ≤ 100001000 := by omega
  have hs0 : 1 ≤ s := by omega
  have hs1 : s ≤ 1500 := by omega
  have HG := Aside0.mk (goodLk_rate r hr0 hr1)
  have HE := Aside0.mk hE
  have hEb : 0 ≤ E ∧ E ≤ 12000000 := by rw [hE]; exact tk_le r s hr0 (by omega) hs1
  have he0 := hEb.1
  have he1 := hEb.2
  have hga := Int.emod_nonneg gp (show 2 * E + 1 ≠ 0 by omega)
  have hgb := Int.emod_lt_of_pos gp (show 0 < 2 * E + 1 by omega)
  rw [← hgap] at hga hgb
  have CE := Aside0.mk (fun w => ticks_any r s (by unfold I64; omega) (by unfold I64; omega) w)
  rw [← hE] at CE
  have HR := Aside0.mk hr
  have HS := Aside0.mk hs
  have HP := Aside0.mk hgap
  have hne : 2 * E + 1 ≠ 0 := by omega
  clear hE hrate hgp hz hr hs hgap hEb
  go_enter Try.func6, Try.ntmps6
  have E0 := blk_new w (.cells #[.int .u32 rate, .int .u32 gp] 46)
  have x0 := blk_cell E0 0
  have x1 := blk_cell E0 1
  simp only [List.getElem?_toArray, List.getElem?_cons_zero, List.getElem?_cons_succ] at x0 x1
  clear E0
  go_wp2_with fail
  go_quiet (fail)
  have HB0 : Aside0 (Below w.heap.size w ((w.alloc (.cells #[.int .u32 rate, .int .u32 gp] 46)).drewN nq)) := ⟨pw_below_drewN ((Below.refl _ _).alloc (Nat.le_refl _) _) nq⟩
  generalize (w.alloc (.cells #[.int .u32 rate, .int .u32 gp] 46)).drewN nq = w0 at *
  clear x0 x1
  go_wp2_with fail
  rw [← HR.out]
  refine (new_run (w0 := w) r 0 0 0 (by decide) HB0.out HG.out).mono ?_
  rintro e w1 ⟨g, rfl, hW⟩
  have H1 := Aside0.mk hW
  clear hW
  go_wp2_with fail
  rw [← HS.out]
  refine (CE.out _).mono ?_
  rintro e w2 ⟨rfl, hb⟩
  have H2 : Aside0 (WyRun w w2 g (Wy.made r 0 0 0)) := ⟨H1.out.below hb⟩
  have I2 : Aside0 (SdIs r E gap 0 (Wy.made r 0 0 0)) := ⟨rfl, rfl, by show (0 : Int) ≤ _; simp, rfl⟩
  clear hb
  go_wp2_with fail
  rw [← HP.out]
  clear H1
  go_loopw [15] (fun v15 wr => SdRel w g n r E gap v15 wr) (fun v _ => n - (intOf v).toNat)
  case atStart => exact ⟨0, _, rfl, by omega, H2, I2⟩
  case round =>
    obtain ⟨i, y, rfl, hi, hW, hI⟩ := hrel
    by_cases hlt : i < n
    · have k1 : decide ((i : Int) < (n : Int)) = true := by simp; omega
      have b2 := Int.mul_le_mul (show (i : Int) ≤ 255 by omega) (show gap ≤ 24000000 by omega) hga (by omega)
      have b3 := Int.mul_nonneg (Int.natCast_nonneg i) hga
      have b4 := Int.mul_le_mul (show (i : Int) ≤ 255 by omega) he1 he0 (by omega)
      have b5 := Int.mul_nonneg (Int.natCast_nonneg i) he0
      have m1 : wrap64 ((i : Int) * gap) = (i : Int) * gap := w64in _ (by omega)
      have m2 : wrap64 ((i : Int) * (E - gap)) = (i : Int) * (E - gap) := by
        rw [Int.mul_sub]
        exact w64in _ (by omega)
      clear b2 b3 b4 b5
      have CW := Aside0.mk (sd_waits r E gap i hW.out hI.out (by omega) he0 he1 hga (by omega))
      obtain ⟨V, hV⟩ : ∃ V, V = max 0 ((i : Int) * (E - gap)) := ⟨_, rfl⟩
      rw [← hV] at CW
      have m3 : max 0 ((i : Int) * (E - gap)) = V := hV.symm
      have H0 := Aside0.mk hV
      clear hV
      go_wp2_with fail
      rw [m1]
      refine CW.out.mono ?_
      rintro e w3 ⟨rfl, hW3⟩
      have HW3 := Aside0.mk hW3
      clear hW3
      go_wp2_with fail
      · rw [m1]
        refine (sd_in r s E gap i HW3.out hI.out (by omega) (by omega) hs1 hr0 hr1 HE.out hga (by omega)).mono ?_
        rintro e w4 ⟨rfl, y', hW4, hI4⟩
        go_wp2_with fail
        exact ⟨⟨i + 1, y', by simp, by omega, ⟨hW4⟩, ⟨hI4⟩⟩, by simp [intOf]; omega⟩
    · have k1 : decide ((i : Int) < (n : Int)) = false := by simp; omega
      go_wp2_with fail
      refine (wakes_any _).mono ?_
      rintro e w7 ⟨rfl, hb⟩
      go_wp2_with fail
      go_ret
      exact ⟨rfl, hW.out.b.trans (hb.mono hW.out.b.size)⟩
theorem steady_true (rate gp size n : Int) (w : World) (h1 : U32 rate) (h2 : U32 gp) (h3 : U16 size) (h4 : U8 n) : Calls Try.prog 6 #[.agg #[.int .u32 rate, .int .u32 gp], .int .u16 size, .int .u8 n] w fun e w' => e = .returned (.bool true) ∧ Below w.heap.size w w' := by
  obtain ⟨m, rfl⟩ := Int.eq_ofNat_of_zero_le h4.1
  have h5 := h4.2
  exact steady_walk rate gp size _ _ _ _ m w (by omega) rfl rfl rfl rfl h1 h2 h3
end Go.Proofs.Ytaghgjmcjmjfiaa.B
