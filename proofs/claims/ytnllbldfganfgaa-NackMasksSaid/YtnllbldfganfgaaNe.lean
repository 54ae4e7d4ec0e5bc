/-
  What a list of packets that are asked for again is told by: entries, as bits.
-/
import Derived.Test.YtnllbldfganfgaaNk
namespace Go.Proofs.Ytnllbldfganfgaa.B
open Go.RowKit Go.Proofs.YtnllbldfganfgaaW.PrintWords

/-- How far x is behind f. -/
def dist (f x : Int) : Int := (x - f) % 65536
/-- The numbers that stand within sixteen behind f: the mask, and what is left. -/
def takeMask (f : Int) : Nat → List Int → Nat × List Int
  | m, [] => (m, [])
  | m, n :: t => if dist f n > 16 then (m, n :: t) else takeMask f (m ||| 2 ^ ((dist f n).toNat - 1)) t
/-- All entries' bits. -/
def entBits : Nat → List Int → List Bool
  | 0, _ => []
  | _ + 1, [] => []
  | k + 1, f :: t => toBits 16 f.toNat ++ (toBits 16 (takeMask f 0 t).1 ++ entBits k (takeMask f 0 t).2)
theorem takeMask_length (f : Int) (m : Nat) (t : List Int) : (takeMask f m t).2.length ≤ t.length := by
  induction t generalizing m with
  | nil => simp [takeMask]
  | cons n t ih =>
    unfold takeMask
    split
    · exact Nat.le_refl _
    · exact Nat.le_succ_of_le (ih _)
theorem takeMask_lt (f : Int) (m : Nat) (t : List Int) (hm : m < 65536) : (takeMask f m t).1 < 65536 := by
  induction t generalizing m with
  | nil => simpa [takeMask] using hm
  | cons n t ih =>
    unfold takeMask
    split
    · exact hm
    · refine ih _ ?_
      have h1 : 2 ^ ((dist f n).toNat - 1) < 2 ^ 16 := Nat.pow_lt_pow_right (by omega) (by omega)
      exact Nat.or_lt_two_pow (n := 16) hm h1
theorem entBits_length (k : Nat) (l : List Int) : (entBits k l).length ≤ 32 * l.length := by
  induction k generalizing l with
  | zero => simp [entBits]
  | succ k ih =>
    cases l with
    | nil => simp [entBits]
    | cons f t =>
      have h1 := ih (takeMask f 0 t).2
      have h2 := takeMask_length f 0 t
      simp only [entBits, List.length_append, toBits_length, List.length_cons]
      omega
/-- More rounds than numbers tell no more. -/
theorem entBits_more (k : Nat) (l : List Int) (h : l.length ≤ k) : entBits k l = entBits l.length l := by
  have key : ∀ n k k' (l : List Int), l.length ≤ n → l.length ≤ k → l.length ≤ k' → entBits k l = entBits k' l := by
    intro n
    induction n with
    | zero =>
      intro k k' l h0 h1 h2
      have : l = [] := List.eq_nil_of_length_eq_zero (by omega)
      subst this
      cases k <;> cases k' <;> rfl
    | succ n ih =>
      intro k k' l h0 h1 h2
      cases l with
      | nil => cases k <;> cases k' <;> rfl
      | cons f t =>
        simp only [List.length_cons] at h0 h1 h2
        obtain ⟨k, rfl⟩ : ∃ m, k = m + 1 := ⟨k - 1, by omega⟩
        obtain ⟨k', rfl⟩ : ∃ m, k' = m + 1 := ⟨k' - 1, by omega⟩
        have h3 := takeMask_length f 0 t
        simp only [entBits]
        rw [ih k k' (takeMask f 0 t).2 (by omega) (by omega) (by omega)]
  exact key k k l.length l h h (Nat.le_refl _)
/-- Numbers of 16 bits, each later one behind each earlier one. -/
def Up (l : List Int) : Prop := (∀ x ∈ l, 0 ≤ x ∧ x < 65536) ∧ l.Pairwise fun a b => 1 ≤ dist a b ∧ dist a b < 32768
theorem Up.tail {f : Int} {t : List Int} (h : Up (f :: t)) : Up t := ⟨fun x hx => h.1 x (List.mem_cons_of_mem _ hx), (List.pairwise_cons.1 h.2).2⟩
theorem Up.head {f : Int} {t : List Int} (h : Up (f :: t)) : (0 ≤ f ∧ f < 65536) ∧ ∀ x ∈ t, 1 ≤ dist f x ∧ dist f x < 32768 := ⟨h.1 f List.mem_cons_self, (List.pairwise_cons.1 h.2).1⟩
theorem Up.drop {l : List Int} (h : Up l) (i : Nat) : Up (l.drop i) := ⟨fun x hx => h.1 x (List.mem_of_mem_drop hx), h.2.sublist (List.drop_sublist i l)⟩
theorem goodTail_up (l0 : Int) (t : List Int) : ∀ p, (0 ≤ p ∧ p < 65536) → dist l0 p < 32768 → goodTail l0 p t = true →
    (∀ x ∈ t, (0 ≤ x ∧ x < 65536) ∧ dist l0 p < dist l0 x ∧ dist l0 x < 32768) ∧ t.Pairwise fun a b => dist l0 a < dist l0 b := by
  induction t with
  | nil => intro p _ _ _; exact ⟨fun x hx => by simp at hx, List.Pairwise.nil⟩
  | cons n t ih =>
    intro p hp hd hg
    simp only [goodTail, Bool.and_eq_true] at hg
    obtain ⟨g1, g2, g3⟩ := hg
    rw [after16_iff] at g1 g2
    have hn : 0 ≤ n ∧ n < 65536 := g1.1
    have hdn : dist l0 n < 32768 := g2.2.2.2
    have hlt : dist l0 p < dist l0 n := by unfold dist at *; omega
    obtain ⟨i1, i2⟩ := ih n hn hdn g3
    refine ⟨fun x hx => ?_, List.pairwise_cons.2 ⟨fun x hx => (i1 x hx).2.1, i2⟩⟩
    rcases List.mem_cons.1 hx with rfl | hx
    · exact ⟨hn, hlt, hdn⟩
    · have := i1 x hx; exact ⟨this.1, by omega, this.2.2⟩
theorem goodB_up (l : List Int) (h : goodB l = true) : Up l ∧ 0 < l.length ∧ l.length ≤ 4096 := by
  cases l with
  | nil => simp [goodB] at h
  | cons n t =>
    simp only [goodB, Bool.and_eq_true, decide_eq_true_eq] at h
    obtain ⟨h1, h2, h3, h4⟩ := h
    have hd : dist n n = 0 := by unfold dist; omega
    obtain ⟨i1, i2⟩ := goodTail_up n t n ⟨h1, by omega⟩ (by omega) h4
    refine ⟨⟨fun x hx => ?_, List.pairwise_cons.2 ⟨fun x hx => ?_, ?_⟩⟩, by simp, by simp; omega⟩
    · rcases List.mem_cons.1 hx with rfl | hx
      · exact ⟨h1, by omega⟩
      · exact (i1 x hx).1
    · have := i1 x hx; exact ⟨by omega, this.2.2⟩
    · have i3 : t.Pairwise fun a b => (dist n a < 32768 ∧ dist n b < 32768) ∧ dist n a < dist n b := by
        rw [List.pairwise_iff_getElem] at i2 ⊢
        intro i j hi hj hij
        exact ⟨⟨(i1 _ (List.getElem_mem hi)).2.2, (i1 _ (List.getElem_mem hj)).2.2⟩, i2 i j hi hj hij⟩
      refine i3.imp fun {a b} hab => ?_
      unfold dist at *
      omega
/-- The body of a list, as bits. -/
def nackBits (s m : Nat) (l : List Int) : List Bool := toBits 32 s ++ toBits 32 m ++ entBits l.length l
/-- A list's body, and the error. -/
def nackEnc (s m : Int) (l : List Int) : ByteArray × Int := if goodB l = true then (strOfNums (packI (nackBits s.toNat m.toNat l)), 0) else (⟨#[]⟩, 1)
end Go.Proofs.Ytnllbldfganfgaa.B
