/-
  What the library's own words (trimmed, parsed, found) say of numbers and of bytes as digits. Plain laws, no program.
-/
import Derived.Test.YtkjjjgplidompaaDoorKa
import Derived.Lib.ParseIntB
import Derived.Lib.SlTrimSet
import Derived.Lib.Bytealg
namespace Go.Proofs.YtkjjjgplidompaaDoor.B
set_option linter.unusedVariables false
set_option linter.unusedSimpArgs false
theorem dropWhile_nil (p : UInt8 → Bool) : ∀ l : List UInt8, l.dropWhile p = [] ↔ ∀ c ∈ l, p c = true
  | [] => by simp
  | c :: l => by
    cases h : p c with
    | true => simp [List.dropWhile, h, dropWhile_nil p l]
    | false => simp [List.dropWhile, h]
theorem dropWhile_head (p : UInt8 → Bool) : ∀ (l : List UInt8) (c : UInt8) (r : List UInt8), l.dropWhile p = c :: r → p c = false
  | [], c, r, h => by simp at h
  | d :: l, c, r, h => by
    cases hd : p d with
    | true => rw [List.dropWhile, hd] at h; exact dropWhile_head p l c r h
    | false =>
      rw [List.dropWhile, hd] at h
      injection h with h1 h2
      rw [← h1]; exact hd
theorem trimS_nil (l cs : List UInt8) : Lib.trimS l cs = [] ↔ ∀ c ∈ l, cs.contains c = true := by
  unfold Lib.trimS Lib.trimLeftS Lib.trimRightS
  constructor
  · intro h
    have h1 := (dropWhile_nil (cs.contains ·) _).1 h
    cases hd : l.reverse.dropWhile (cs.contains ·) with
    | nil =>
      have h2 := (dropWhile_nil (cs.contains ·) _).1 hd
      intro c hc
      exact h2 c (List.mem_reverse.2 hc)
    | cons c r =>
      have h2 := dropWhile_head (cs.contains ·) _ c r hd
      have h3 := h1 c (by rw [hd]; simp)
      rw [h3] at h2; cases h2
  · intro h
    have : l.reverse.dropWhile (cs.contains ·) = [] := (dropWhile_nil _ _).2 (fun c hc => h c (List.mem_reverse.1 hc))
    rw [this]; rfl
abbrev digs : List UInt8 := [48, 49, 50, 51, 52, 53, 54, 55, 56, 57]
abbrev hexs : List UInt8 := [48, 49, 50, 51, 52, 53, 54, 55, 56, 57, 97, 98, 99, 100, 101, 102]
theorem digs_is (c : UInt8) : digs.contains c = isDig c := by
  rw [Bool.eq_iff_iff]
  simp only [isDig, decide_eq_true_eq, List.contains_iff_mem, List.mem_cons, List.not_mem_nil, or_false]
  constructor
  · intro h
    rcases h with rfl | rfl | rfl | rfl | rfl | rfl | rfl | rfl | rfl | rfl <;> decide
  · intro h
    have e : ∀ k : UInt8, c.toNat = k.toNat → c = k := fun k h => UInt8.toNat_inj.1 h
    have : c.toNat = 48 ∨ c.toNat = 49 ∨ c.toNat = 50 ∨ c.toNat = 51 ∨ c.toNat = 52 ∨ c.toNat = 53 ∨ c.toNat = 54 ∨ c.toNat = 55 ∨ c.toNat = 56 ∨ c.toNat = 57 := by omega
    rcases this with h | h | h | h | h | h | h | h | h | h
    · exact .inl (e 48 h)
    · exact .inr (.inl (e 49 h))
    · exact .inr (.inr (.inl (e 50 h)))
    · exact .inr (.inr (.inr (.inl (e 51 h))))
    · exact .inr (.inr (.inr (.inr (.inl (e 52 h)))))
    · exact .inr (.inr (.inr (.inr (.inr (.inl (e 53 h))))))
    · exact .inr (.inr (.inr (.inr (.inr (.inr (.inl (e 54 h)))))))
    · exact .inr (.inr (.inr (.inr (.inr (.inr (.inr (.inl (e 55 h))))))))
    · exact .inr (.inr (.inr (.inr (.inr (.inr (.inr (.inr (.inl (e 56 h)))))))))
    · exact .inr (.inr (.inr (.inr (.inr (.inr (.inr (.inr (.inr (e 57 h)))))))))
/-- Where a digit stands among the sixteen; -1: it is none. -/
def hexIx (c : UInt8) : Int := match hexVal c with | some n => (n : Int) | none => -1
theorem hexs_ix : ∀ c : UInt8, Lib.indexByte hexs c = hexIx c := by
  intro c
  have hc := c.toNat_lt
  have e : ∀ k : Nat, k < 256 → c.toNat = k → c = UInt8.ofNat k := fun k hk h => UInt8.toNat_inj.1 (by rw [UInt8.toNat_ofNat', h]; omega)
  have ne : ∀ k : UInt8, c.toNat ≠ k.toNat → (k == c) = false := fun k h => beq_eq_false_iff_ne.2 (fun h2 => h (by rw [h2]))
  by_cases h1 : 48 ≤ c.toNat ∧ c.toNat ≤ 57
  · have : c.toNat = 48 ∨ c.toNat = 49 ∨ c.toNat = 50 ∨ c.toNat = 51 ∨ c.toNat = 52 ∨ c.toNat = 53 ∨ c.toNat = 54 ∨ c.toNat = 55 ∨ c.toNat = 56 ∨ c.toNat = 57 := by omega
    rcases this with h | h | h | h | h | h | h | h | h | h <;> (rw [e _ (by omega) h]; decide)
  · by_cases h2 : 97 ≤ c.toNat ∧ c.toNat ≤ 102
    · have : c.toNat = 97 ∨ c.toNat = 98 ∨ c.toNat = 99 ∨ c.toNat = 100 ∨ c.toNat = 101 ∨ c.toNat = 102 := by omega
      rcases this with h | h | h | h | h | h <;> (rw [e _ (by omega) h]; decide)
    · have hv : hexIx c = -1 := by unfold hexIx hexVal; rw [if_neg h1, if_neg h2]
      rw [hv]
      have n1 := ne 48 (by simp; omega); have n2 := ne 49 (by simp; omega); have n3 := ne 50 (by simp; omega); have n4 := ne 51 (by simp; omega)
      have n5 := ne 52 (by simp; omega); have n6 := ne 53 (by simp; omega); have n7 := ne 54 (by simp; omega); have n8 := ne 55 (by simp; omega)
      have n9 := ne 56 (by simp; omega); have n10 := ne 57 (by simp; omega); have n11 := ne 97 (by simp; omega); have n12 := ne 98 (by simp; omega)
      have n13 := ne 99 (by simp; omega); have n14 := ne 100 (by simp; omega); have n15 := ne 101 (by simp; omega); have n16 := ne 102 (by simp; omega)
      simp [Lib.indexByte, n1, n2, n3, n4, n5, n6, n7, n8, n9, n10, n11, n12, n13, n14, n15, n16]
theorem hexs_is (c : UInt8) : hexs.contains c = (hexVal c).isSome := by
  have h := hexs_ix c
  have hb : ∀ (l : List UInt8) (c : UInt8), l.contains c = !(Lib.indexByte l c == -1) := by
    intro l c
    induction l with
    | nil => rfl
    | cons b l ih =>
      have hge := Lib.indexByte_ge l c
      by_cases hbc : b = c
      · subst hbc; simp [Lib.indexByte]
      · have hbc2 : (b == c) = false := beq_eq_false_iff_ne.2 hbc
        have hbc3 : (c == b) = false := beq_eq_false_iff_ne.2 (fun e => hbc e.symm)
        rw [List.contains_cons, hbc3, Bool.false_or, ih]
        simp only [Lib.indexByte, hbc2]
        by_cases hi : Lib.indexByte l c = -1
        · simp [hi]
        · have h3 : (Lib.indexByte l c == -1) = false := beq_eq_false_iff_ne.2 hi
          have h4 : (Lib.indexByte l c + 1 == -1) = false := beq_eq_false_iff_ne.2 (by omega)
          simp [h3, h4]
  rw [hb, h]
  unfold hexIx
  cases hexVal c with
  | none => rfl
  | some n =>
    have : ((n : Int) == -1) = false := beq_eq_false_iff_ne.2 (by omega)
    simp [this]
/-! Numbers, as the library parses them. -/
theorem parseUintM_dec (M : Nat) (hM : 10 ^ 18 ≤ M) : ∀ (l : List UInt8) (acc : Nat), l.all isDig = true → decOf acc l < 10 ^ 18 → Lib.parseUintM M acc l = .ok (decOf acc l)
  | [], acc, _, _ => rfl
  | c :: r, acc, h, hb => by
    have h1 : isDig c = true := by simp at h; exact h.1
    have h2 : r.all isDig = true := by simp at h ⊢; exact h.2
    simp only [isDig, decide_eq_true_eq] at h1
    have hg := decOf_ge r (acc * 10 + (c.toNat - 48))
    have hb2 : decOf (acc * 10 + (c.toNat - 48)) r < 10 ^ 18 := hb
    rw [Lib.parseUintM, if_pos h1, if_neg (by omega), if_neg (by omega)]
    exact parseUintM_dec M hM r _ h2 hb2
theorem parse_number {l : List UInt8} {m n : Nat} (h : numberL l m = some n) (hm : m ≤ 18) : Lib.parseIntB 64 l = .ok (n : Int) := by
  have hlt : n < 10 ^ 18 := Nat.lt_of_lt_of_le (numberL_lt h) (Nat.pow_le_pow_right (by omega) hm)
  have hd := numberL_digits h
  unfold numberL at h
  split at h
  · cases h
  · rename_i g
    simp only [not_or] at g
    injection h with h
    have hall : l.all isDig = true := by simpa using g.2.2.2
    cases l with
    | nil => exact absurd rfl g.1
    | cons c r =>
      have hc := hd c (by simp)
      simp only [isDig, decide_eq_true_eq] at hc
      have hu : Lib.parseUintB 64 (c :: r) = .ok n := by
        unfold Lib.parseUintB
        rw [if_neg (by simp), parseUintM_dec _ (by decide) _ 0 hall (by rw [h]; exact hlt), h]
      unfold Lib.parseIntB
      dsimp only
      rw [if_neg (by omega), hu]
      dsimp only
      rw [if_neg (by omega), if_neg (by omega), if_neg (by omega)]
/-- The four tests. -/
theorem number_tests (l : List UInt8) (m : Nat) (h1 : l ≠ []) (h2 : ¬ m < l.length) (h3 : ¬ (1 < l.length ∧ l.head? = some 48)) (h4 : Lib.trimS l digs = []) : numberL l m = some (decOf 0 l) := by
  unfold numberL
  rw [if_neg]
  intro h
  rcases h with h | h | h | h
  · exact h1 h
  · exact h2 h
  · exact h3 h
  · have : l.all isDig = true := by
      rw [List.all_eq_true]
      intro c hc
      rw [← digs_is]
      exact (trimS_nil l digs).1 h4 c hc
    rw [this] at h; cases h
theorem number_fails (l : List UInt8) (m : Nat) (h : l = [] ∨ m < l.length ∨ (1 < l.length ∧ l.head? = some 48) ∨ Lib.trimS l digs ≠ []) : numberL l m = none := by
  unfold numberL
  rw [if_pos]
  rcases h with h | h | h | h
  · exact .inl h
  · exact .inr (.inl h)
  · exact .inr (.inr (.inl h))
  · refine .inr (.inr (.inr ?_))
    cases hc : l.all isDig with
    | false => rfl
    | true =>
      refine absurd ((trimS_nil l digs).2 ?_) h
      intro c hm
      rw [digs_is]
      exact List.all_eq_true.1 hc c hm
/-! Bytes, two digits each. -/
def hv (c : UInt8) : Nat := (hexVal c).getD 0
/-- The byte that the digits at 2 i tell. -/
def unhexAt (d : List UInt8) (i : Nat) : UInt8 := UInt8.ofNat (16 * hv (d.getD (2 * i) 0) + hv (d.getD (2 * i + 1) 0))
theorem unhexP_is : ∀ (n : Nat) (d : List UInt8), d.length = 2 * n → (∀ c ∈ d, (hexVal c).isSome = true) → unhexP d = some ((List.range n).map (unhexAt d))
  | 0, d, h, _ => by rw [List.eq_nil_of_length_eq_zero (by omega : d.length = 0)]; rfl
  | n + 1, d, h, hd => by
    match d, h, hd with
    | [], h, _ => simp at h
    | [_], h, _ => simp at h; omega
    | a :: b :: r, h, hd =>
      have ih := unhexP_is n r (by simp at h; omega) (fun c hc => hd c (by simp [hc]))
      obtain ⟨x, hx⟩ := Option.isSome_iff_exists.1 (hd a (by simp))
      obtain ⟨y, hy⟩ := Option.isSome_iff_exists.1 (hd b (by simp))
      rw [unhexP, hx, hy, ih]
      show some (UInt8.ofNat (16 * x + y) :: _) = _
      rw [List.range_succ_eq_map, List.map_cons, List.map_map]
      have e0 : unhexAt (a :: b :: r) 0 = UInt8.ofNat (16 * x + y) := by
        unfold unhexAt hv
        show UInt8.ofNat (16 * (hexVal a).getD 0 + (hexVal b).getD 0) = _
        rw [hx, hy]; rfl
      have e1 : (unhexAt (a :: b :: r)) ∘ Nat.succ = unhexAt r := by
        funext i
        show unhexAt (a :: b :: r) (i + 1) = unhexAt r i
        unfold unhexAt
        rw [show 2 * (i + 1) = 2 * i + 1 + 1 by omega, List.getD_cons_succ, List.getD_cons_succ, List.getD_cons_succ, List.getD_cons_succ]
      rw [e0, e1]
theorem unhexP_odd : ∀ (n : Nat) (d : List UInt8), d.length = 2 * n + 1 → unhexP d = none
  | 0, d, h => by
    match d, h with
    | [_], _ => rfl
  | n + 1, d, h => by
    match d, h with
    | a :: b :: r, h =>
      rw [unhexP, unhexP_odd n r (by simp at h; omega)]
      cases hexVal a <;> cases hexVal b <;> rfl
theorem unhexP_bad : ∀ (n : Nat) (d : List UInt8), d.length = 2 * n → (∃ c ∈ d, hexVal c = none) → unhexP d = none
  | 0, d, h, hd => by
    obtain ⟨c, hc, _⟩ := hd
    rw [List.eq_nil_of_length_eq_zero (by omega : d.length = 0)] at hc
    simp at hc
  | n + 1, d, h, hd => by
    match d, h, hd with
    | [], h, _ => simp at h
    | [_], h, _ => simp at h; omega
    | a :: b :: r, h, hd =>
      obtain ⟨c, hc, hn⟩ := hd
      rw [unhexP]
      rcases List.mem_cons.1 hc with rfl | hc
      · rw [hn]
      rcases List.mem_cons.1 hc with rfl | hc
      · rw [hn]; cases hexVal a <;> rfl
      · rw [unhexP_bad n r (by simp at h; omega) ⟨c, hc, hn⟩]
        cases hexVal a <;> cases hexVal b <;> rfl
/-- The program's tests of digits. -/
theorem unhex_ok (d : List UInt8) (h1 : d ≠ [45]) (h2 : d ≠ []) (h3 : d.length % 2 = 0) (h4 : Lib.trimS d hexs = []) : unhexL d = some ((List.range (d.length / 2)).map (unhexAt d)) := by
  unfold unhexL
  rw [if_neg h1, if_neg h2]
  refine unhexP_is _ d (by omega) ?_
  intro c hc
  rw [← hexs_is]
  exact (trimS_nil d hexs).1 h4 c hc
theorem unhex_fails (d : List UInt8) (h1 : d ≠ [45]) (h : d = [] ∨ d.length % 2 ≠ 0 ∨ Lib.trimS d hexs ≠ []) : unhexL d = none := by
  unfold unhexL
  rw [if_neg h1]
  by_cases h2 : d = []
  · rw [if_pos h2]
  · rw [if_neg h2]
    by_cases h3 : d.length % 2 = 0
    · have h4 : Lib.trimS d hexs ≠ [] := by
        rcases h with h | h | h
        · exact absurd h h2
        · exact absurd h3 h
        · exact h
      refine unhexP_bad (d.length / 2) d (by omega) ?_
      apply Classical.byContradiction
      intro hn
      apply h4
      refine (trimS_nil d hexs).2 ?_
      intro c hc
      rw [hexs_is]
      cases hv : hexVal c with
      | some _ => rfl
      | none => exact absurd ⟨c, hc, hv⟩ hn
    · exact unhexP_odd (d.length / 2) d (by omega)
end Go.Proofs.YtkjjjgplidompaaDoor.B
