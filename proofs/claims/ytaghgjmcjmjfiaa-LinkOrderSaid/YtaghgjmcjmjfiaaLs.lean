/-
  The way with one queue: the laws of what is lost, and of packets of one size. Walks over the program.
-/
import Derived.Test.YtaghgjmcjmjfiaaLn
import Derived.Test.YtaghgjmcjmjfiaaRw
namespace Go.Proofs.Ytaghgjmcjmjfiaa.B
open Go.RowKit Go.Proofs.YtaghgjmcjmjfiaaW.PrintWords Go.Proofs.YtaghgjmcjmjfiaaW.PrintLast Go.Proofs.YtaghgjmcjmjfiaaW.PrintMore
set_option linter.unusedVariables false
set_option linter.unusedSimpArgs false
theorem lsLost_eq (k : Int) (j : Nat) (hj : j < 256) : lsLost k j = (((j : Int) + 1) % k == 0) := by
  unfold lsLost
  rw [w64in _ (by omega), Int.tmod_eq_emod_of_nonneg (by omega)]
def LsRel (w : World) (g n : Nat) (k s E : Int) (v : Value) (wr : World) : Prop := ∃ i : Nat, v = .int .i64 (i : Int) ∧ i ≤ n ∧ Aside0 (WyRun w wr g (lsY k s E i))
def LsRel2 (w5 : World) (n : Nat) (k s E : Int) (v14 v15 : Value) (wr : World) : Prop := ∃ i : Nat, v14 = .int .i64 ((lsO k s E i).length : Int) ∧ v15 = .int .i64 (i : Int) ∧ i ≤ n ∧ wr = w5
theorem goodLk_lose (k : Int) (h0 : 0 ≤ k) (h1 : k ≤ 1000) : goodLk 1000000 0 k 0 = true := by
  unfold goodLk
  rw [decide_eq_true h0, decide_eq_true h1]
  decide
theorem ls_in {w0 w : World} {g : Nat} (k s E : Int) (i : Nat) (h : WyRun w0 w g (lsY k s E i)) (hi : i < 255) (hk : 0 < k) (hs0 : 0 ≤ s) (hs1 : s ≤ 1500) (hE : E = mdo s 8000000 1000000 3) (h0 : 0 ≤ E) (h1 : E ≤ 12000000) :
    Calls Try.prog 11 #[.pointer (some ⟨g, 0, none⟩), .int .i64 (i : Int), .int .i64 s, .int .i64 0] w fun e w' => e = .returned (.bool true) ∧ WyRun w0 w' g (lsY k s E (i + 1)) := by
  have e1 := ls_step k s E i hi hk h0 h1
  have hq : (lsY k s E i).q.length < 4096 := by
    show (lsQ k s E i).length < 4096
    rw [lsQ_len]
    omega
  have hr : I64 (lsY k s E i).rate := by
    show I64 1000000
    decide
  have hl : (lsY k s E i).last ≤ 0 := by
    show (0 : Int) ≤ 0
    decide
  have hc := in_run (i : Int) s 0 h (by omega) (by omega) hs0 hs1 hl (by decide) hq hr
  have er : mdo s 8000000 (lsY k s E i).rate 3 = E := hE.symm
  rw [er, e1] at hc
  exact hc
theorem ls_outs {w0 w : World} {g : Nat} (k s E : Int) (i : Nat) (h : WyRun w0 w g (lsY k s E i)) (hi : i < 256) (h0 : 0 ≤ E) (h1 : E ≤ 12000000) :
    Calls Try.prog 12 #[.pointer (some ⟨g, 0, none⟩), .int .i64 1099511627776] w fun e w' => ∃ (A : Option Addr) (c : Nat), e = .returned (.slice A (lsO k s E i).length c) ∧ (lsO k s E i).length ≤ c ∧ cmD.C w' A (lsO k s E i).length (lsO k s E i) ∧ Below w0.heap.size w0 w' := by
  have hq : (lsY k s E i).q.length ≤ 4096 := by
    show (lsQ k s E i).length ≤ 4096
    rw [lsQ_len]
    omega
  have hc := out_run 1099511627776 h.rr hq
  rw [show lkOut (lsY k s E i).delay (lsY k s E i).skew 1099511627776 (lsY k s E i).q = (lsO k s E i, []) from ls_out k s E i hi h0 h1] at hc
  refine hc.mono ?_
  rintro e w' ⟨A, c, he, h2, h3, h4⟩
  exact ⟨A, c, he, h2, h3, h4.b⟩
set_option maxHeartbeats 2000000 in
theorem loses_walk (lose size k s : Int) (n : Nat) (w : World) (hn : n ≤ 255) (hk : k = 1 + lose % 1000) (hs : s = 1 + size % 1500) (hl : U16 lose) (hz : U16 size) :
    Calls Try.prog 7 #[.int .u16 lose, .int .u8 (n : Int), .int .u16 size] w fun e w' => e = .returned (.bool true) ∧ Below w.heap.size w w' := by
  have hl0 := hl.1
  have hl1 := hl.2
  have hz0 := hz.1
  have hz1 := hz.2
  have hk0 : 1 ≤ k := by omega
  have hk1 : k ≤ 1000 := by omega
  have hs0 : 1 ≤ s := by omega
  have hs1 : s ≤ 1500 := by omega
  have HG := Aside0.mk (goodLk_lose k (by omega) hk1)
  obtain ⟨E, hE⟩ : ∃ E, E = mdo s 8000000 1000000 3 := ⟨_, rfl⟩
  have HE := Aside0.mk hE
  have hEb : Aside0 (0 ≤ E ∧ E ≤ 12000000) := ⟨by rw [hE]; exact tk_le 1000000 s (by omega) (by omega) hs1⟩
  have CE := Aside0.mk (fun w => ticks_any 1000000 s (by unfold I64; omega) (by unfold I64; omega) w)
  rw [← hE] at CE
  have HK := Aside0.mk hk
  have HS := Aside0.mk hs
  clear hE hl hz hk hs
  go_enter Try.func7, Try.ntmps7
  go_wp2_with fail
  rw [← HK.out]
  refine (new_run (w0 := w) 1000000 0 k 0 (by decide) (Below.refl _ _) HG.out).mono ?_
  rintro e w1 ⟨g, rfl, hW⟩
  have H1 := Aside0.mk hW
  clear hW
  go_wp2_with fail
  rw [← HS.out]
  refine (CE.out _).mono ?_
  rintro e w2 ⟨rfl, hb⟩
  have H2 : Aside0 (WyRun w w2 g (lsY k s E 0)) := ⟨by simpa [lsY, Wy.made, lsQ] using H1.out.below hb⟩
  clear hb
  go_wp2_with fail
  clear H1
  go_loopw [12] (fun v12 wr => LsRel w g n k s E v12 wr) (fun v _ => n - (intOf v).toNat)
  case atStart => exact ⟨0, rfl, by omega, H2⟩
  case round =>
    obtain ⟨i, rfl, hi, hW⟩ := hrel
    by_cases hlt : i < n
    · have k1 : decide ((i : Int) < (n : Int)) = true := by simp; omega
      go_wp2_with fail
      refine (ls_in k s E i hW.out (by omega) (by omega) (by omega) hs1 HE.out hEb.out.1 hEb.out.2).mono ?_
      rintro e w3 ⟨rfl, hW2⟩
      go_wp2_with fail
      exact ⟨⟨i + 1, by simp, by omega, ⟨hW2⟩⟩, by simp [intOf]; omega⟩
    · have k1 : decide ((i : Int) < (n : Int)) = false := by simp; omega
      have hin : i = n := by omega
      subst hin
      go_wp2_with fail
      refine (ls_outs k s E i hW.out (by omega) hEb.out.1 hEb.out.2).mono ?_
      rintro e w5 ⟨A, c, rfl, hc, hC, hb⟩
      have HB := Aside0.mk hb
      have HC := Aside0.mk hC
      clear hC hb
      go_wp2_with fail
      go_loopw [14, 15] (fun v14 v15 wr => LsRel2 w5 i k s E v14 v15 wr) (fun _ v _ => i - (intOf v).toNat)
      case atStart => exact ⟨0, rfl, rfl, by omega, rfl⟩
      case round =>
        obtain ⟨j, rfl, rfl, hj, rfl⟩ := hrel
        by_cases hlt : j < i
        · have k1 : decide ((j : Int) < (i : Int)) = true := by simp; omega
          have hz : k ≠ 0 := by omega
          have k3 := lsLost_eq k j (by omega)
          have k4 := ls_small (j + 1) E (by omega) hEb.out.1 hEb.out.2
          have k5 : wrap64 (((j : Int) + 1) * E) = ((j : Int) + 1) * E := by
            push_cast at k4
            exact w64in _ (by omega)
          clear k4
          have hlen := lsO_len k s E j
          have hle := lsO_le k s E j
          cases hl : lsLost k j with
          | true =>
            rw [hl] at k3 hlen
            replace k3 := k3.symm
            rw [if_pos rfl] at hlen
            have HL := Aside0.mk hlen
            clear hlen
            go_wp2_with fail
            refine ⟨⟨j + 1, by rw [HL.out]; rfl, by simp, by omega, rfl⟩, by simp [intOf]; omega⟩
          | false =>
            obtain ⟨hp, hpl⟩ := lsO_at k s E j i hlt hl
            rw [hl] at k3 hlen
            replace k3 := k3.symm
            rw [if_neg (by decide)] at hlen
            have HL := Aside0.mk hlen
            clear hlen
            obtain ⟨ad, a, b, c2, rfl, hq, g0, g1, g2⟩ := cm_at HC.out (lsO k s E j).length hpl
            rw [hp] at hq
            injection hq with hq
            injection hq with e1 hq
            injection hq with e2 e3
            subst e1 e2 e3
            have k2 : decide (((lsO k s E i).length : Int) ≤ ((lsO k s E j).length : Int)) = false := by simp; omega
            go_wp2_with fail
            refine ⟨⟨j + 1, by rw [HL.out]; simp, by simp, by omega, rfl⟩, by simp [intOf]; omega⟩
        · have k1 : decide ((j : Int) < (i : Int)) = false := by simp; omega
          have hji : j = i := by omega
          subst hji
          go_wp2_with fail
          refine (wakes_any _).mono ?_
          rintro e w7 ⟨rfl, hb⟩
          go_wp2_with fail
          go_ret
          exact ⟨rfl, HB.out.trans (hb.mono HB.out.size)⟩
theorem loses_true (lose n size : Int) (w : World) (h1 : U16 lose) (h2 : U8 n) (h3 : U16 size) : Calls Try.prog 7 #[.int .u16 lose, .int .u8 n, .int .u16 size] w fun e w' => e = .returned (.bool true) ∧ Below w.heap.size w w' := by
  obtain ⟨m, rfl⟩ := Int.eq_ofNat_of_zero_le h2.1
  have h4 := h2.2
  exact loses_walk lose size _ _ m w (by omega) rfl rfl h1 h3
end Go.Proofs.Ytaghgjmcjmjfiaa.B
