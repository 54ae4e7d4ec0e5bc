/-
  How much came: the samples of a window as a list. Plain laws.
-/
import Derived.Test.YtpmbacgdbnfeeaaRo
namespace Go.Proofs.Ytpmbacgdbnfeeaa.B
open Go.RowKit Go.Proofs.YtpmbacgdbnfeeaaW.PrintWords Go.Proofs.YtpmbacgdbnfeeaaW.PrintLast Go.Proofs.YtpmbacgdbnfeeaaW.PrintMore
set_option linter.unusedVariables false
set_option linter.unusedSimpArgs false
abbrev Smp := Int × Int
def SmpLe (a b : Smp) : Prop := a.1 ≤ b.1
def sumS (l : List Smp) : Int := (l.map (·.2)).sum
theorem sumS_nil : sumS [] = 0 := rfl
theorem sumS_cons (x : Smp) (l : List Smp) : sumS (x :: l) = x.2 + sumS l := by simp [sumS]
theorem sumS_append (a b : List Smp) : sumS (a ++ b) = sumS a + sumS b := by simp [sumS]
theorem sumS_perm {a b : List Smp} (h : a.Perm b) : sumS a = sumS b := by
  induction h with
  | nil => rfl
  | cons x _ ih => rw [sumS_cons, sumS_cons, ih]
  | swap x y l => rw [sumS_cons, sumS_cons, sumS_cons, sumS_cons]; omega
  | trans _ _ h1 h2 => exact h1.trans h2
theorem sumS_range {l : List Smp} (h : ∀ p ∈ l, 0 ≤ p.2 ∧ p.2 ≤ 1500) : 0 ≤ sumS l ∧ sumS l ≤ 1500 * l.length := by
  induction l with
  | nil => simp [sumS]
  | cons x r ih =>
    have h1 := ih (fun p hp => h p (List.mem_cons_of_mem _ hp))
    have h2 := h x List.mem_cons_self
    rw [sumS_cons, List.length_cons]
    omega
/-- One more, at its place. -/
theorem ins_sorted {l : List Smp} {k : Nat} {c s : Int} (hs : l.Pairwise SmpLe) (hk : k ≤ l.length) (hd : ∀ p ∈ l.drop k, c < p.1) (hb : k = 0 ∨ ∃ p, l[k - 1]? = some p ∧ p.1 ≤ c) : (l.take k ++ (c, s) :: l.drop k).Pairwise SmpLe := by
  have ht : ∀ p ∈ l.take k, p.1 ≤ c := by
    rcases hb with rfl | ⟨q, hq, hqc⟩
    · intro p hp
      simp at hp
    · intro p hp
      obtain ⟨j, hj, e⟩ := List.getElem_of_mem hp
      rw [List.getElem_take] at e
      have hjk : j < k := by
        have := List.length_take (i := k) (l := l)
        omega
      obtain ⟨hk1, hq'⟩ := List.getElem?_eq_some_iff.1 hq
      by_cases h : j = k - 1
      · subst h
        rw [← e, hq']
        exact hqc
      · have := (List.pairwise_iff_getElem.1 hs) j (k - 1) (by omega) (by omega) (by omega)
        rw [e, hq'] at this
        unfold SmpLe at this
        omega
  have hspl : (l.take k ++ l.drop k).Pairwise SmpLe := by rw [List.take_append_drop]; exact hs
  obtain ⟨p1, p2, p3⟩ := List.pairwise_append.1 hspl
  refine List.pairwise_append.2 ⟨p1, List.pairwise_cons.2 ⟨fun b hb => ?_, p2⟩, fun a ha b hb => ?_⟩
  · have := hd b hb
    show c ≤ b.1
    omega
  · rcases List.mem_cons.1 hb with rfl | hb
    · exact ht a ha
    · exact p3 a ha b hb
theorem ins_perm (l : List Smp) (k : Nat) (x : Smp) : (l.take k ++ x :: l.drop k).Perm (l ++ [x]) := by
  refine List.perm_middle.trans ?_
  rw [List.take_append_drop]
  exact (List.perm_append_comm (l₁ := [x]) (l₂ := l))
/-- What is too old stands ahead. -/
theorem cut_filter {l : List Smp} {k : Nat} {e : Int} (hs : l.Pairwise SmpLe) (ht : ∀ p ∈ l.take k, p.1 ≤ e) (hk : l.length ≤ k ∨ ∃ p, l[k]? = some p ∧ e < p.1) : l.drop k = l.filter (fun p => decide (e < p.1)) := by
  have h : l.filter (fun p => decide (e < p.1)) = (l.take k ++ l.drop k).filter (fun p => decide (e < p.1)) := by rw [List.take_append_drop]
  rw [h, List.filter_append]
  have h1 : (l.take k).filter (fun p => decide (e < p.1)) = [] := by
    rw [List.filter_eq_nil_iff]
    intro p hp
    have := ht p hp
    simp
    omega
  rw [h1, List.nil_append]
  symm
  rw [List.filter_eq_self]
  intro p hp
  obtain ⟨j, hj, ej⟩ := List.getElem_of_mem hp
  rw [List.getElem_drop] at ej
  rw [List.length_drop] at hj
  rcases hk with hk | ⟨q, hq, hqe⟩
  · omega
  · obtain ⟨hk1, hq'⟩ := List.getElem?_eq_some_iff.1 hq
    by_cases h0 : j = 0
    · subst h0
      simp only [Nat.add_zero] at ej
      rw [← ej, hq']
      exact decide_eq_true hqe
    · have := (List.pairwise_iff_getElem.1 hs) k (k + j) (by omega) (by omega) (by omega)
      rw [ej, hq'] at this
      unfold SmpLe at this
      exact decide_eq_true (by omega)
/-- The meter: its samples in the order in which they came in; of each packet of the last whether it was lost. -/
structure Mt where
  window : Int
  any : Bool
  first : Int
  last : Int
  l : List Smp
  ls : List Bool
def Mt.push (ls : List Bool) (b : Bool) : List Bool := (ls ++ [b]).drop (ls.length + 1 - 64)
def goodS (came size : Int) : Bool := decide (0 ≤ size ∧ size ≤ 1500 ∧ -1125899906842624 ≤ came ∧ came ≤ 1125899906842624)
def Mt.firstOf (s : Mt) (came : Int) : Int := if s.any = true then min s.first came else came
def Mt.lastOf (s : Mt) (came : Int) : Int := if s.any = true then max s.last came else came
def Mt.got1 (s : Mt) (came size : Int) : Mt :=
  { s with any := true, first := s.firstOf came, last := s.lastOf came, l := (s.l ++ [(came, size)]).filter (fun p => decide (s.lastOf came - s.window < p.1)), ls := Mt.push s.ls false }
def Mt.got (s : Mt) (came size : Int) : Mt := if goodS came size = true then s.got1 came size else s
def Mt.pushed (s : Mt) (b : Bool) : Mt := { s with ls := Mt.push s.ls b }
def Mt.lostN (s : Mt) : Nat → Mt
  | 0 => s
  | n + 1 => (s.lostN n).pushed true
theorem lostN_succ (s : Mt) (j : Nat) : (s.lostN j).pushed true = s.lostN (j + 1) := by rw [Mt.lostN]
def Mt.lost (s : Mt) (n : Int) : Mt := if 0 ≤ n ∧ n ≤ 4096 then s.lostN n.toNat else s
def Mt.full (s : Mt) : Bool := s.any && decide (s.window ≤ s.last - s.first)
def lossN (ls : List Bool) : Nat := ls.countP (fun b => b)
def Mt.loss (s : Mt) : Int := if s.ls.length = 0 then 0 else (lossN s.ls : Int) * 256 / s.ls.length
structure MtOk (s : Mt) (k : Nat) : Prop where
  w0 : 1 ≤ s.window
  w1 : s.window ≤ 1125899906842624
  f0 : -1125899906842624 ≤ s.first
  l1 : s.last ≤ 1125899906842624
  fl : s.first ≤ s.last
  sz : ∀ p ∈ s.l, 0 ≤ p.2 ∧ p.2 ≤ 1500
  len : s.l.length ≤ k
  lsn : s.ls.length ≤ 64
theorem push_len {ls : List Bool} (h : ls.length ≤ 64) (b : Bool) : (Mt.push ls b).length ≤ 64 := by
  unfold Mt.push
  rw [List.length_drop, List.length_append, List.length_singleton]
  omega
theorem MtOk.got1 {s : Mt} {k : Nat} (h : MtOk s k) {came size : Int} (hg : goodS came size = true) : MtOk (s.got1 came size) (k + 1) := by
  simp only [goodS, decide_eq_true_eq] at hg
  obtain ⟨a1, a2, a3, a4⟩ := hg
  obtain ⟨h1, h2, h3, h4, h5, h6, h7, h8⟩ := h
  unfold Mt.got1 Mt.firstOf Mt.lastOf
  refine ⟨h1, h2, ?_, ?_, ?_, fun p hp => ?_, ?_, push_len h8 _⟩
  · dsimp only; split <;> omega
  · dsimp only; split <;> omega
  · dsimp only; split <;> omega
  · dsimp only at hp
    rcases List.mem_append.1 (List.mem_filter.1 hp).1 with hp | hp
    · exact h6 p hp
    · rw [List.mem_singleton] at hp
      subst hp
      exact ⟨a1, a2⟩
  · dsimp only
    refine Nat.le_trans (List.length_filter_le _ _) ?_
    rw [List.length_append, List.length_singleton]
    omega
theorem MtOk.mono {s : Mt} {k k' : Nat} (h : MtOk s k) (hk : k ≤ k') : MtOk s k' := ⟨h.1, h.2, h.3, h.4, h.5, h.6, Nat.le_trans h.7 hk, h.8⟩
theorem MtOk.got {s : Mt} {k : Nat} (h : MtOk s k) (came size : Int) : MtOk (s.got came size) (k + 1) := by
  unfold Mt.got
  split
  · exact h.got1 (by assumption)
  · exact h.mono (by omega)
theorem MtOk.pushed {s : Mt} {k : Nat} (h : MtOk s k) (b : Bool) : MtOk (s.pushed b) k := ⟨h.1, h.2, h.3, h.4, h.5, h.6, h.7, push_len h.8 b⟩
theorem MtOk.lostN {s : Mt} {k : Nat} (h : MtOk s k) (n : Nat) : MtOk (s.lostN n) k := by
  induction n with
  | zero => exact h
  | succ n ih =>
    rw [Mt.lostN]
    exact ih.pushed true
theorem MtOk.lost {s : Mt} {k : Nat} (h : MtOk s k) (n : Int) : MtOk (s.lost n) k := by
  unfold Mt.lost
  split
  · exact h.lostN _
  · exact h
theorem MtOk.sum {s : Mt} {k : Nat} (h : MtOk s k) : 0 ≤ sumS s.l ∧ sumS s.l ≤ 1500 * k := by
  have := sumS_range h.sz
  have := h.len
  omega
def Mt.made (window : Int) : Mt := ⟨window, false, 0, 0, [], []⟩
theorem made_okM {window : Int} (h0 : 1 ≤ window) (h1 : window ≤ 1125899906842624) : MtOk (Mt.made window) 0 := ⟨h0, h1, by show -1125899906842624 ≤ (0 : Int); omega, by show (0 : Int) ≤ 1125899906842624; omega, by show (0 : Int) ≤ 0; omega, fun p hp => (List.not_mem_nil hp).elim, Nat.le_refl 0, by show 0 ≤ 64; omega⟩
end Go.Proofs.Ytpmbacgdbnfeeaa.B
