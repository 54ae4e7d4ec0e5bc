/-
  The third controller: what holds of it whatever is told. Plain laws.
-/
import Derived.Test.YthlgndgacmalaaaSn
namespace Go.Proofs.Ythlgndgacmalaaa.B
open Go.RowKit Go.Proofs.YthlgndgacmalaaaW.PrintWords Go.Proofs.YthlgndgacmalaaaW.PrintLast Go.Proofs.YthlgndgacmalaaaW.PrintMore
set_option linter.unusedVariables false
set_option linter.unusedSimpArgs false
theorem done_ok (s : Sc) (rtt : Int) (h : ScOk s) : ScOk (s.done rtt).1 := by
  unfold Sc.done
  have hb := mdo_range s.hi 1000000 8000000 1
  have hr := mdo_range (max (min s.win (mdo s.hi 1000000 8000000 1)) 3000) 8000000 rtt 1
  obtain ⟨h1, h2, h3, h4⟩ := h
  dsimp only
  refine ⟨?_, h2, h3, ?_⟩
  · refine cl_i64 ?_ h2 h3
    split
    · exact wrap64_i64 _
    · exact hr
  · show I64 (max (min s.win (mdo s.hi 1000000 8000000 1)) 3000)
    unfold I64 at *
    omega
theorem main_ok (s : Sc) (acked delay : Int) (lost ecn : Bool) (rtt now : Int) (h : ScOk s) : ScOk (s.main acked delay lost ecn rtt now) := by
  obtain ⟨h1, h2, h3, h4⟩ := h
  unfold Sc.main
  split
  · refine ⟨h1, h2, h3, ?_⟩
    dsimp only
    split <;> exact mdo_range _ _ _ _
  · split
    · split
      · exact ⟨h1, h2, h3, h4⟩
      · exact ⟨h1, h2, h3, wrap64_i64 _⟩
    · exact ⟨h1, h2, h3, wrap64_i64 _⟩
theorem hear_ok (s : Sc) (acked delay : Int) (lost ecn : Bool) (rtt now : Int) (h : ScOk s) : ScOk (s.hear acked delay lost ecn rtt now).1 := done_ok _ _ (main_ok _ _ _ _ _ _ _ h)
theorem made_ok (start lo hi : Int) (h : goodSc start lo hi = true) : ScOk (Sc.made start lo hi) := by
  simp only [goodSc, decide_eq_true_eq] at h
  have := mdo_range start 100000 8000000 1
  unfold Sc.made ScOk I64 at *
  dsimp only
  refine ⟨by omega, by omega, by omega, ?_⟩
  split <;> omega
theorem made_wakes : Sc.made 1000000 1000 5000000 = ⟨1000000, 1000, 5000000, 12500, true, false, 0, false, 0⟩ := by kernel_rfl
def s1w : Sc := ⟨1096000, 1000, 5000000, 13700, true, false, 0, false, 0⟩
theorem hear_wakes1 : Sc.hear ⟨1000000, 1000, 5000000, 12500, true, false, 0, false, 0⟩ 1200 0 false false 100000 0 = (s1w, 1096000) := by kernel_rfl
theorem hear_wakes2 : (Sc.hear s1w 0 0 true false 100000 10).2 = 876800 := by kernel_rfl
theorem signB_pos {a b c : Int} (ha : 0 ≤ a) (hb : 0 ≤ b) (hc : 0 ≤ c) : signB a b c = false := by
  unfold signB
  simp [show ¬ a < 0 by omega, show ¬ b < 0 by omega, show ¬ c < 0 by omega]
/-- Of numbers from 0 on: the quotient, rounded down, and held. -/
theorem mdo_down {a b c : Int} (ha : 0 ≤ a) (hb : 0 ≤ b) (hc : 0 < c) : mdo a b c 1 = hold (a * b / c) := by
  unfold mdo quoN
  rw [if_neg (by omega), signB_pos ha hb (by omega), if_neg (by simp)]
  have e : upB (a.natAbs * b.natAbs % c.natAbs) c.natAbs false 1 = false := by simp [upB]
  rw [e]
  congr 1
  obtain ⟨x, rfl⟩ := Int.eq_ofNat_of_zero_le ha
  obtain ⟨y, rfl⟩ := Int.eq_ofNat_of_zero_le hb
  obtain ⟨z, rfl⟩ := Int.eq_ofNat_of_zero_le (show 0 ≤ c by omega)
  simp
theorem most_eighth {h : Int} (h0 : 0 ≤ h) (h1 : h ≤ 17179869184) : mdo h 1000000 8000000 1 = h / 8 := by
  rw [mdo_down h0 (by omega) (by omega), hold_in] <;> omega
structure BInv (lo hi : Int) (s : Sc) : Prop where
  ok : ScOk s
  elo : s.lo = lo
  ehi : s.hi = hi
  w0 : 3000 ≤ s.win
  w1 : s.win ≤ 2147486648
  r0 : lo ≤ s.rate
  r1 : s.rate ≤ hi
theorem main_lohi (s : Sc) (a d : Int) (l e : Bool) (r n : Int) : (s.main a d l e r n).lo = s.lo ∧ (s.main a d l e r n).hi = s.hi := by
  unfold Sc.main
  split
  · exact ⟨rfl, rfl⟩
  · split
    · split <;> exact ⟨rfl, rfl⟩
    · exact ⟨rfl, rfl⟩
theorem BInv.hear {lo hi : Int} {s : Sc} (h : BInv lo hi s) (hlh : lo ≤ hi) (h1 : 1 ≤ lo) (h2 : hi ≤ 17179869184) (a d : Int) (l e : Bool) (r n : Int) :
    BInv lo hi (s.hear a d l e r n).1 ∧ lo ≤ (s.hear a d l e r n).2 ∧ (s.hear a d l e r n).2 ≤ hi := by
  have hok := hear_ok s a d l e r n h.ok
  obtain ⟨e1, e2⟩ := main_lohi s (cl a 0 16777216) (cl d 0 1000000) l e (cl r 1000 1000000) (cl n 0 1125899906842624)
  unfold Sc.hear at hok ⊢
  generalize s.main (cl a 0 16777216) (cl d 0 1000000) l e (cl r 1000 1000000) (cl n 0 1125899906842624) = t at *
  rw [h.elo] at e1
  rw [h.ehi] at e2
  unfold Sc.done at hok ⊢
  dsimp only at hok ⊢
  rw [e2, most_eighth (by omega) h2, e1] at hok ⊢
  have hc := cl_range (a := if t.old = true then wrap64 (mdo (max (min t.win (hi / 8)) 3000) 8000000 (cl r 1000 1000000) 1 - wrap64 ((mdo (max (min t.win (hi / 8)) 3000) 8000000 (cl r 1000 1000000) 1).tdiv 8)) else mdo (max (min t.win (hi / 8)) 3000) 8000000 (cl r 1000 1000000) 1) hlh
  refine ⟨⟨hok, rfl, rfl, ?_, ?_, hc.1, hc.2⟩, hc.1, hc.2⟩
  · dsimp only; omega
  · dsimp only; omega
theorem BInv.made {start lo hi : Int} (h : goodSc start lo hi = true) : BInv lo hi (Sc.made start lo hi) := by
  have hok := made_ok start lo hi h
  simp only [goodSc, decide_eq_true_eq] at h
  have hm : mdo start 100000 8000000 1 = start / 80 := by
    rw [mdo_down (by omega) (by omega) (by omega), hold_in] <;> omega
  refine ⟨hok, rfl, rfl, ?_, ?_, by show lo ≤ start; omega, by show start ≤ hi; omega⟩ <;> (unfold Sc.made; dsimp only; rw [hm]; split <;> omega)
theorem BInv.age {lo hi : Int} {s : Sc} (h : BInv lo hi s) (b : Bool) : BInv lo hi { s with old := b } := ⟨h.ok, h.elo, h.ehi, h.w0, h.w1, h.r0, h.r1⟩
end Go.Proofs.Ythlgndgacmalaaa.B
