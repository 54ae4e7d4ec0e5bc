/-
  A message taken apart: which parts a text has, or what is first wrong with it. Plain laws, no program.
-/
import Derived.Test.YteegleldmnokkaaPt
namespace Go.Proofs.Yteegleldmnokkaa.B
open Go.RowKit Go.Proofs.YteegleldmnokkaaW.PrintWords
/-- The text behind the first part. -/
def restOf (s : ByteArray) : ByteArray := s.extract (partSize s) s.size
theorem partSize_ge (s : ByteArray) : 4 ≤ partSize s := by unfold partSize; omega
theorem restOf_size (s : ByteArray) : (restOf s).size = s.size - partSize s := by simp [restOf]
theorem partErr_size {s : ByteArray} (h : partErr s = 0) : partSize s ≤ s.size ∧ 4 ≤ s.size := by
  unfold partErr at h
  split at h
  · cases h
  · split at h
    · cases h
    · omega
def splitR (s : ByteArray) : Except Int (List P3) :=
  if _h : s.size = 0 then .ok [] else if partErr s ≠ 0 then .error (partErr s) else (splitR (restOf s)).map (partOf s :: ·)
termination_by s.size
decreasing_by
  have := partSize_ge s
  rw [restOf_size]
  omega
theorem splitR_nil {s : ByteArray} (h : s.size = 0) : splitR s = .ok [] := by rw [splitR, dif_pos h]
theorem splitR_bad {s : ByteArray} (h : ¬ s.size = 0) (he : partErr s ≠ 0) : splitR s = .error (partErr s) := by rw [splitR, dif_neg h, if_pos he]
theorem splitR_go {s : ByteArray} (h : ¬ s.size = 0) (he : partErr s = 0) : splitR s = (splitR (restOf s)).map (partOf s :: ·) := by rw [splitR, dif_neg h, if_neg (by simp [he])]
def splitP (s : ByteArray) : List P3 × Int := if 65536 < s.size then ([], 2) else if s.size = 0 then ([], 60) else match splitR s with
  | .ok l => (l, 0)
  | .error e => ([], e)
theorem splitP_long {s : ByteArray} (h : 65536 < s.size) : splitP s = ([], 2) := by unfold splitP; rw [if_pos h]
theorem splitP_none {s : ByteArray} (h : s.size = 0) : splitP s = ([], 60) := by unfold splitP; rw [if_neg (by omega), if_pos h]
theorem splitP_ok {s : ByteArray} {l : List P3} (h1 : s.size ≤ 65536) (h2 : ¬ s.size = 0) (h : splitR s = .ok l) : splitP s = (l, 0) := by unfold splitP; rw [if_neg (by omega), if_neg h2, h]
theorem splitP_bad {s : ByteArray} {e : Int} (h1 : s.size ≤ 65536) (h2 : ¬ s.size = 0) (h : splitR s = .error e) : splitP s = ([], e) := by unfold splitP; rw [if_neg (by omega), if_neg h2, h]
/-- Behind the parts l the text r is left. -/
def Behind (s : ByteArray) (l : List P3) (r : ByteArray) : Prop := splitR s = (splitR r).map (l ++ ·)
theorem Behind.start (s : ByteArray) : Behind s [] s := by
  unfold Behind
  cases splitR s <;> rfl
theorem Behind.next {s r : ByteArray} {l : List P3} (h : Behind s l r) (hr : ¬ r.size = 0) (he : partErr r = 0) : Behind s (l ++ [partOf r]) (restOf r) := by
  unfold Behind at h ⊢
  rw [h, splitR_go hr he]
  cases splitR (restOf r) with
  | error e => rfl
  | ok m => show Except.ok _ = Except.ok _; simp
theorem Behind.bad {s r : ByteArray} {l : List P3} (h : Behind s l r) (hr : ¬ r.size = 0) (he : partErr r ≠ 0) : splitR s = .error (partErr r) := by
  unfold Behind at h
  rw [h, splitR_bad hr he]
  rfl
theorem Behind.done {s r : ByteArray} {l : List P3} (h : Behind s l r) (hr : r.size = 0) : splitR s = .ok l := by
  unfold Behind at h
  rw [h, splitR_nil hr]
  show Except.ok _ = Except.ok _
  simp
/-- Parts, as cells. -/
def partV (l : List P3) : List Value := l.flatMap fun x => [.int .i64 x.1, .int .i64 x.2.1, .string x.2.2]
theorem partV_length (l : List P3) : (partV l).length = l.length * 3 := by
  induction l with
  | nil => rfl
  | cons x l ih => simp only [partV, List.flatMap_cons, List.length_append, List.length_cons, List.length_nil] at ih ⊢; omega
theorem partV_snoc (l : List P3) (x : P3) : partV (l ++ [x]) = partV l ++ [.int .i64 x.1, .int .i64 x.2.1, .string x.2.2] := by simp [partV]
theorem partV_append (l m : List P3) : partV (l ++ m) = partV l ++ partV m := by simp [partV]
theorem partV_one (l : List P3) : ∀ u ∈ partV l, u.oneCell' = true := by
  intro u hu
  unfold partV at hu
  rw [List.mem_flatMap] at hu
  obtain ⟨x, _, hx⟩ := hu
  rcases List.mem_cons.1 hx with rfl | hx
  · rfl
  rcases List.mem_cons.1 hx with rfl | hx
  · rfl
  rcases List.mem_cons.1 hx with rfl | hx
  · rfl
  cases hx
theorem partV_get {l : List P3} {i : Nat} {x : P3} (h : l[i]? = some x) : (partV l)[i * 3]? = some (.int .i64 x.1) ∧ (partV l)[i * 3 + 1]? = some (.int .i64 x.2.1) ∧ (partV l)[i * 3 + 2]? = some (.string x.2.2) := by
  obtain ⟨hi, rfl⟩ := List.getElem?_eq_some_iff.1 h
  have e : partV l = partV (l.take i) ++ ([.int .i64 l[i].1, .int .i64 l[i].2.1, .string l[i].2.2] ++ partV (l.drop (i + 1))) := by
    conv => lhs; rw [← List.take_append_drop i l, List.drop_eq_getElem_cons hi]
    rw [partV_append]
    rfl
  have hl : (partV (l.take i)).length = i * 3 := by rw [partV_length, List.length_take, Nat.min_eq_left (Nat.le_of_lt hi)]
  refine ⟨?_, ?_, ?_⟩ <;> rw [e, List.getElem?_append_right (by omega), hl]
  · rw [Nat.sub_self]; rfl
  · rw [Nat.add_sub_cancel_left]; rfl
  · rw [Nat.add_sub_cancel_left]; rfl
end Go.Proofs.Yteegleldmnokkaa.B
