/-
  The way with one queue: plain laws. No program in sight.
-/
import Derived.Test.YtaghgjmcjmjfiaaLw
namespace Go.Proofs.Ytaghgjmcjmjfiaa.B
open Go.RowKit
set_option linter.unusedVariables false
set_option linter.unusedSimpArgs false
theorem w64in (n : Int) (h : -9223372036854775808 ≤ n ∧ n ≤ 9223372036854775807) : wrap64 n = n := by unfold wrap64; omega
/-- The time that a packet takes. -/
def tk (r n : Int) : Int := mdo n 8000000 r 3
theorem tk_nat (r n : Nat) (hr : 0 < r) (hn : n ≤ 1000000) : tk (r : Int) (n : Int) = ((n * 8000000 / r + (if n * 8000000 % r = 0 then 0 else 1) : Nat) : Int) := by
  unfold tk mdo
  have h1 : ¬ ((r : Int) = 0 ∨ (3 : Int) < 1 ∨ (3 : Int) < 3) := by omega
  rw [if_neg h1]
  have h2 : signB (n : Int) 8000000 (r : Int) = false := by
    unfold signB
    rw [decide_eq_false (show ¬ ((n : Int) < 0) by omega), decide_eq_false (show ¬ ((r : Int) < 0) by omega)]
    rfl
  rw [h2]
  simp only [Bool.false_eq_true, if_false]
  have h3 : quoN (n : Int) 8000000 (r : Int) 3 = n * 8000000 / r + (if n * 8000000 % r = 0 then 0 else 1) := by
    unfold quoN
    rw [h2]
    have e1 : ((n : Int)).natAbs = n := Int.natAbs_natCast n
    have e2 : ((r : Int)).natAbs = r := Int.natAbs_natCast r
    have e3 : (8000000 : Int).natAbs = 8000000 := rfl
    rw [e1, e2, e3]
    congr 1
    unfold upB
    by_cases h : n * 8000000 % r = 0
    · simp [h]
    · simp [h]
      omega
  rw [h3]
  have hq : n * 8000000 / r ≤ n * 8000000 := Nat.div_le_self _ _
  generalize n * 8000000 / r = Q at *
  apply hold_in
  · split <;> omega
  · split <;> omega
theorem ceil_spec (r N Q M : Nat) (hd : r * Q + M = N) (hm : M < r) : (N : Int) ≤ (r : Int) * ((Q + (if M = 0 then 0 else 1) : Nat) : Int) ∧ (r : Int) * ((Q + (if M = 0 then 0 else 1) : Nat) : Int) ≤ (N : Int) + ((r : Int) - 1) := by
  subst hd
  rw [Int.natCast_add, Int.natCast_mul]
  split
  · rename_i h
    subst h
    simp only [Nat.add_zero]
    generalize (r : Int) * (Q : Int) = X
    constructor <;> omega
  · rw [Int.natCast_add, Int.mul_add]
    generalize (r : Int) * (Q : Int) = X
    constructor <;> omega
theorem tk_spec (r n : Int) (hr : 0 < r) (h0 : 0 ≤ n) (h1 : n ≤ 1000000) : 0 ≤ tk r n ∧ n * 8000000 ≤ r * tk r n ∧ r * tk r n ≤ n * 8000000 + (r - 1) := by
  obtain ⟨r, rfl⟩ := Int.eq_ofNat_of_zero_le (Int.le_of_lt hr)
  obtain ⟨n, rfl⟩ := Int.eq_ofNat_of_zero_le h0
  have hr' : 0 < r := Int.ofNat_lt.1 hr
  have hn : n ≤ 1000000 := Int.ofNat_le.1 h1
  rw [tk_nat r n hr' hn]
  have e : ((n : Int) * 8000000) = ((n * 8000000 : Nat) : Int) := (Int.natCast_mul n 8000000).symm
  rw [e]
  have hd := Nat.div_add_mod (n * 8000000) r
  have hm := Nat.mod_lt (n * 8000000) hr'
  exact ⟨Int.natCast_nonneg _, ceil_spec r _ _ _ hd hm⟩
theorem tk_le (r n : Int) (hr : 1000 ≤ r) (h0 : 0 ≤ n) (h1 : n ≤ 1500) : 0 ≤ tk r n ∧ tk r n ≤ 12000000 := by
  obtain ⟨a, b, c⟩ := tk_spec r n (by omega) h0 (by omega)
  refine ⟨a, Int.not_lt.1 fun hc => ?_⟩
  have h2 := Int.mul_le_mul_of_nonneg_left (show (12000001 : Int) ≤ tk r n from hc) (show (0 : Int) ≤ r by omega)
  omega
theorem lk_all (d s t : Int) : ∀ q : List Pkt, (∀ p ∈ q, wrap64 (p.2.2.2.1 + d) ≤ t) → lkOut d s t q = ((q.filter (fun p => !p.2.2.2.2)).map (fun p => (p.1, p.2.1, wrap64 (wrap64 (p.2.2.2.1 + d) + s))), [])
  | [], _ => rfl
  | p :: r, h => by
    have hr := lk_all d s t r (fun x hx => h x (List.mem_cons_of_mem _ hx))
    have hp := h p (List.mem_cons_self)
    cases hl : p.2.2.2.2 with
    | true => rw [lk_lost hp hl, hr]; simp [hl]
    | false => rw [lk_came hp hl, hr]; simp [hl]
/-- Of every so many just the last one is lost. -/
def lsLost (k : Int) (i : Nat) : Bool := (wrap64 ((i : Int) + 1)).tmod k == 0
def lsQ (k s E : Int) : Nat → List Pkt
  | 0 => []
  | i + 1 => lsQ k s E i ++ [((i : Int), s, 0, ((i : Int) + 1) * E, lsLost k i)]
def lsO (k s E : Int) : Nat → List Cmt
  | 0 => []
  | i + 1 => lsO k s E i ++ (if lsLost k i = true then [] else [((i : Int), s, ((i : Int) + 1) * E)])
def lsY (k s E : Int) (i : Nat) : Wy := ⟨1000000, 0, k, 0, 0, (i : Int) * E, i, lsQ k s E i⟩
theorem lsQ_len (k s E : Int) : ∀ i, (lsQ k s E i).length = i
  | 0 => rfl
  | i + 1 => by simp [lsQ, lsQ_len k s E i]
theorem ls_small (i : Nat) (E : Int) (hi : i < 256) (h0 : 0 ≤ E) (h1 : E ≤ 12000000) : 0 ≤ (i : Int) * E ∧ (i : Int) * E ≤ 3060000000 := by
  have a := Int.mul_nonneg (Int.natCast_nonneg i) h0
  have b := Int.mul_le_mul (show (i : Int) ≤ 255 by omega) h1 h0 (by omega)
  omega
theorem ls_step (k s E : Int) (i : Nat) (hi : i < 255) (hk : 0 < k) (h0 : 0 ≤ E) (h1 : E ≤ 12000000) : (lsY k s E i).in1 i s 0 E = lsY k s E (i + 1) := by
  have ha := ls_small i E (by omega) h0 h1
  have hm : ((i : Int) + 1) * E = (i : Int) * E + E := by rw [Int.add_mul, Int.one_mul]
  have e1 : wrap64 (max ((i : Int) * E) 0 + E) = ((i : Int) + 1) * E := by
    rw [hm, Int.max_eq_left ha.1, w64in _ (by omega)]
  unfold lsY Wy.in1
  dsimp only
  rw [e1, lsQ, decide_eq_true hk, Bool.true_and]
  have e2 : wrap64 ((i : Int) + 1) = ((i + 1 : Nat) : Int) := by rw [w64in _ (by omega)]; push_cast; rfl
  unfold lsLost
  rw [e2]
  push_cast
  rfl
theorem lsQ_mem (k s E : Int) (h0 : 0 ≤ E) (h1 : E ≤ 12000000) : ∀ i, i < 256 → ∀ p ∈ lsQ k s E i, wrap64 (p.2.2.2.1 + 0) = p.2.2.2.1 ∧ wrap64 (wrap64 (p.2.2.2.1 + 0) + 0) = p.2.2.2.1 ∧ p.2.2.2.1 ≤ 1099511627776
  | 0, _, p, hp => by simp [lsQ] at hp
  | i + 1, hi, p, hp => by
    rw [lsQ, List.mem_append, List.mem_singleton] at hp
    rcases hp with hp | rfl
    · exact lsQ_mem k s E h0 h1 i (by omega) p hp
    · dsimp only
      have ha := ls_small (i + 1) E hi h0 h1
      push_cast at ha
      generalize ((i : Int) + 1) * E = X at *
      rw [Int.add_zero, w64in X (by omega), Int.add_zero, w64in X (by omega)]
      exact ⟨rfl, rfl, by omega⟩
theorem lsO_eq (k s E : Int) : ∀ i, ((lsQ k s E i).filter (fun p => !p.2.2.2.2)).map (fun p => (p.1, p.2.1, p.2.2.2.1)) = lsO k s E i
  | 0 => rfl
  | i + 1 => by
    rw [lsQ, lsO, List.filter_append, List.map_append, lsO_eq k s E i]
    cases h : lsLost k i <;> simp [h]
theorem ls_out (k s E : Int) (i : Nat) (hi : i < 256) (h0 : 0 ≤ E) (h1 : E ≤ 12000000) : lkOut 0 0 1099511627776 (lsQ k s E i) = (lsO k s E i, []) := by
  have hm := lsQ_mem k s E h0 h1 i hi
  rw [lk_all _ _ _ _ (fun p hp => by rw [(hm p hp).1]; exact (hm p hp).2.2), ← lsO_eq k s E i]
  congr 1
  apply List.map_congr_left
  intro p hp
  rw [(hm p (List.mem_filter.1 hp).1).2.1]
theorem lsO_pre (k s E : Int) (i : Nat) : ∀ n, i ≤ n → ∃ r, lsO k s E n = lsO k s E i ++ r
  | 0, h => ⟨[], by have : i = 0 := by omega
                    subst this; simp⟩
  | n + 1, h => by
    by_cases he : i = n + 1
    · exact ⟨[], by rw [he]; simp⟩
    · obtain ⟨r, hr⟩ := lsO_pre k s E i n (by omega)
      exact ⟨_, by rw [lsO, hr, List.append_assoc]⟩
theorem lsO_at (k s E : Int) (i n : Nat) (hi : i < n) (hl : lsLost k i = false) : (lsO k s E n)[(lsO k s E i).length]? = some ((i : Int), s, ((i : Int) + 1) * E) ∧ (lsO k s E i).length < (lsO k s E n).length := by
  obtain ⟨r, hr⟩ := lsO_pre k s E (i + 1) n hi
  rw [hr, lsO, hl]
  simp
theorem lsO_len (k s E : Int) (i : Nat) : (lsO k s E (i + 1)).length = (lsO k s E i).length + (if lsLost k i = true then 0 else 1) := by
  rw [lsO, List.length_append]
  split <;> simp
theorem lsO_le (k s E : Int) : ∀ i, (lsO k s E i).length ≤ i
  | 0 => by simp [lsO]
  | i + 1 => by have := lsO_le k s E i; rw [lsO_len]; split <;> omega
/-- Packets of one size, at one distance. -/
theorem sd_each (r : Int) (x : Int) (h0 : 0 ≤ x) : 0 ≤ x.tmod 100000000 ∧ x.tmod 100000000 < 100000000 := by
  rw [Int.tmod_eq_emod_of_nonneg h0]
  omega
/-- When all are carried, of i packets at a distance g, each of which takes E. -/
def sdFree (E g : Int) (i : Nat) : Int := if i = 0 then 0 else if g ≤ E then (i : Int) * E else ((i : Int) - 1) * g + E
theorem sd_wait (E g : Int) (i : Nat) (hi : i < 256) (hE : 0 ≤ E) (hE1 : E ≤ 12000000) (hg : 0 ≤ g) (hg1 : g ≤ 24000000) : max (hold (sdFree E g i - (i : Int) * g)) 0 = max 0 ((i : Int) * (E - g)) := by
  unfold sdFree
  have a1 := Int.mul_nonneg (Int.natCast_nonneg i) hE
  have a2 := Int.mul_nonneg (Int.natCast_nonneg i) hg
  have b1 := Int.mul_le_mul (show (i : Int) ≤ 255 by omega) hE1 hE (by omega)
  have b2 := Int.mul_le_mul (show (i : Int) ≤ 255 by omega) hg1 hg (by omega)
  have e : (i : Int) * (E - g) = (i : Int) * E - (i : Int) * g := Int.mul_sub _ _ _
  split
  · rename_i h
    subst h
    simp [hold]
  · split
    · rw [hold_in (by omega) (by omega), e, Int.max_comm]
    · rename_i h1 h2
      have e2 : ((i : Int) - 1) * g = (i : Int) * g - g := by rw [Int.sub_mul, Int.one_mul]
      have e3 := Int.mul_le_mul_of_nonneg_left (show E ≤ g by omega) (Int.natCast_nonneg i)
      rw [e2, hold_in (by omega) (by omega), e, Int.max_eq_right (by omega), Int.max_eq_left (by omega)]
theorem sd_free (E g : Int) (i : Nat) (hi : i < 255) (hE : 0 ≤ E) (hE1 : E ≤ 12000000) (hg : 0 ≤ g) (hg1 : g ≤ 24000000) : wrap64 (max (sdFree E g i) ((i : Int) * g) + E) = sdFree E g (i + 1) := by
  unfold sdFree
  have a1 := Int.mul_nonneg (Int.natCast_nonneg i) hE
  have a2 := Int.mul_nonneg (Int.natCast_nonneg i) hg
  have b1 := Int.mul_le_mul (show (i : Int) ≤ 255 by omega) hE1 hE (by omega)
  have b2 := Int.mul_le_mul (show (i : Int) ≤ 255 by omega) hg1 hg (by omega)
  have e5 : ((i + 1 : Nat) : Int) * E = (i : Int) * E + E := by push_cast; rw [Int.add_mul, Int.one_mul]
  have e6 : (((i + 1 : Nat) : Int) - 1) * g = (i : Int) * g := by push_cast; rw [Int.add_sub_cancel]
  have e7 : ((i : Int) - 1) * g = (i : Int) * g - g := by rw [Int.sub_mul, Int.one_mul]
  rw [if_neg (show ¬ (i + 1 = 0) by omega), e5, e6]
  by_cases h : i = 0
  · subst h
    rw [if_pos rfl]
    simp
    rw [w64in _ (by omega)]
  · rw [if_neg h]
    by_cases h2 : g ≤ E
    · have := Int.mul_le_mul_of_nonneg_left h2 (Int.natCast_nonneg i)
      rw [if_pos h2, if_pos h2, Int.max_eq_left this, w64in _ (by omega)]
    · rw [if_neg h2, if_neg h2, e7, Int.max_eq_right (by omega), w64in _ (by omega)]
end Go.Proofs.Ytaghgjmcjmjfiaa.B
