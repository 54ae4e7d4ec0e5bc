/-
  A line's words: the program's way over its letters, the reference's over its bytes. Plain laws and walks.
-/
import Derived.Test.YtkjjjgplidompaaDoorRz
import Derived.Test.YtkjjjgplidompaaDoorKb
import Derived.Lib.OthersKept
import Derived.Laws.RangeAny
import Derived.Laws.DeepStrings4
import Derived.Laws.Strings2
import Derived.Laws.Strings3
namespace Go.Proofs.YtkjjjgplidompaaDoor.B
open Go.RowKit Go.Proofs.YtkjjjgplidompaaDoorW.PrintWords Go.Proofs.YtkjjjgplidompaaDoorW.PrintLast Go.Proofs.YtkjjjgplidompaaDoorW.PrintMore
set_option linter.unusedVariables false
set_option linter.unusedSimpArgs false
/-- A list of bytes as a text. -/
abbrev tx (L : List UInt8) : ByteArray := ⟨L.toArray⟩
theorem tx_size (L : List UInt8) : (tx L).size = L.length := by show L.toArray.size = _; simp
theorem tx_of (s : ByteArray) : tx s.data.toList = s := by cases s; simp [tx]
theorem tx_data (L : List UInt8) : (tx L).data.toList = L := by simp [tx]
theorem len_of (s : ByteArray) : s.data.toList.length = s.size := by rw [Array.length_toList]; rfl
theorem tx_extract (s : ByteArray) (a b : Nat) : s.extract a b = tx ((s.data.toList.take b).drop a) := by
  apply ByteArray.ext
  rw [ByteArray.data_extract]
  show s.data.extract a b = _
  apply Array.ext'
  simp [List.drop_take]
/-- Texts in a row. -/
def strsV (D : List (List UInt8)) : List Value := D.map fun x => Value.string (tx x)
theorem strsV_snoc (D : List (List UInt8)) (x : List UInt8) : strsV (D ++ [x]) = strsV D ++ [.string (tx x)] := by simp [strsV]
theorem strsV_append (D E : List (List UInt8)) : strsV (D ++ E) = strsV D ++ strsV E := by simp [strsV]
theorem strsV_length (D : List (List UInt8)) : (strsV D).length = D.length := by simp [strsV]
/-- On the way: at the place i, the words D are cut off, the next one began at f. -/
def WAt (l : List UInt8) (i f : Nat) (D : List (List UInt8)) : Prop := i ≤ l.length ∧ f ≤ i ∧ D.length ≤ f ∧ D ++ wordsFrom ((l.take i).drop f) (l.drop i) = wordsL l
theorem WAt.start (l : List UInt8) : WAt l 0 0 [] := ⟨Nat.zero_le _, Nat.le_refl _, Nat.le_refl _, by simp [wordsFrom_nil]⟩
theorem WAt.blank {l : List UInt8} {i f : Nat} {D : List (List UInt8)} (h : WAt l i f D) (hi : i < l.length) (hb : l[i] = 32) : WAt l (i + 1) (i + 1) (D ++ [(l.take i).drop f]) := by
  obtain ⟨h1, h2, h3, h4⟩ := h
  refine ⟨hi, Nat.le_refl _, by simp; omega, ?_⟩
  rw [List.drop_eq_getElem_cons hi, hb, wordsFrom_blank] at h4
  rw [← h4, show (l.take (i + 1)).drop (i + 1) = [] by simp, wordsFrom_nil]
  simp
theorem WAt.chars {l : List UInt8} {i f : Nat} {D : List (List UInt8)} (h : WAt l i f D) (k : Nat) (hk : i + k ≤ l.length) (hc : ∀ j, i ≤ j → j < i + k → l[j]? ≠ some 32) : WAt l (i + k) f D := by
  obtain ⟨h1, h2, h3, h4⟩ := h
  refine ⟨hk, by omega, h3, ?_⟩
  rw [← h4]
  congr 1
  have e1 : l.drop i = (l.drop i).take k ++ l.drop (i + k) := by
    conv => lhs; rw [← List.take_append_drop k (l.drop i)]
    rw [List.drop_drop]
  rw [e1, wordsFrom_chars]
  · congr 1
    rw [List.take_add, List.drop_append_of_le_length (by simp; omega)]
  · intro c hm e
    subst e
    obtain ⟨j, hj, hj2⟩ := List.mem_iff_getElem.1 hm
    have hj3 : j < k := by simp at hj; omega
    refine hc (i + j) (by omega) (by omega) ?_
    rw [List.getElem_take, List.getElem_drop] at hj2
    rw [List.getElem?_eq_getElem (by omega), hj2]
theorem WAt.done {l : List UInt8} {f : Nat} {D : List (List UInt8)} {i : Nat} (h : WAt l i f D) (hi : ¬ i < l.length) : D ++ [(l.take i).drop f] = wordsL l := by
  obtain ⟨h1, h2, h3, h4⟩ := h
  rw [List.drop_of_length_le (by omega : l.length ≤ i), wordsFrom_end] at h4
  exact h4
theorem words_length (l : List UInt8) : (wordsL l).length ≤ l.length + 1 := by
  induction l with
  | nil => simp [wordsL]
  | cons c r ih =>
    unfold wordsL
    split
    · simp; omega
    · cases hw : wordsL r with
      | nil => exact absurd hw (wordsL_ne r)
      | cons x t => rw [hw] at ih; simp at ih ⊢; omega
/-! Letters: how many bytes one takes, and that none but the blank itself has its byte. -/
theorem get_at_k (s : ByteArray) (p k : Nat) (h : p + k < s.size) : s.get! (p + k) = s[p + k]'h := by
  simp [ByteArray.get!, getElem!_pos, h]
  rfl
theorem list_at (s : ByteArray) (j : Nat) (h : j < s.size) : s.data.toList[j]? = some (s[j]'h) := by
  rw [List.getElem?_eq_getElem (by rw [len_of]; exact h)]
  simp
  rfl
theorem decode_cont (s : ByteArray) (pos : Nat) (h : pos < s.size) (ha : 128 ≤ (s[pos]'h).toNat) : ∀ k, 1 ≤ k → k < (Utf8.decode s pos).2 → pos + k < s.size ∧ (s.get! (pos + k)).toNat / 64 = 2 := by
  have hn : ¬ (s[pos]'h).toNat < 128 := by omega
  simp only [Utf8.decode, get_at s pos h, hn, if_false]
  repeat' split
  all_goals (intro k h1 h2; simp only [Bool.and_eq_true, decide_eq_true_eq, beq_iff_eq] at *)
  all_goals first
    | (exfalso; omega; done)
    | (have h3 : k = 1 ∨ k = 2 ∨ k = 3 := by omega
       rcases h3 with rfl | rfl | rfl <;> first
         | (exfalso; omega; done)
         | (constructor <;> omega))
theorem decode_wide (s : ByteArray) (pos : Nat) (h : pos < s.size) (ha : 128 ≤ (s[pos]'h).toNat) : pos + (Utf8.decode s pos).2 ≤ s.size ∧ ∀ j, pos ≤ j → j < pos + (Utf8.decode s pos).2 → s.data.toList[j]? ≠ some 32 := by
  have hc := decode_cont s pos h ha
  generalize (Utf8.decode s pos).2 = m at hc
  constructor
  · rcases Nat.lt_or_ge 1 m with hm | hm
    · have := (hc (m - 1) (by omega) (by omega)).1
      omega
    · omega
  · intro j h1 h2 e
    by_cases hj : j = pos
    · subst hj
      rw [list_at s j h] at e
      injection e with e
      rw [e] at ha
      exact absurd ha (by decide)
    · obtain ⟨g1, g2⟩ := hc (j - pos) (by omega) (by omega)
      rw [show j = pos + (j - pos) by omega, list_at s _ g1] at e
      rw [get_at_k s pos _ g1] at g2
      injection e with e
      rw [e] at g2
      exact absurd g2 (by decide)
theorem ascii_wide (s : ByteArray) (pos : Nat) (h : pos < s.size) (ha : (s[pos]'h).toNat < 128) : Utf8.decode s pos = ((s[pos]'h).toNat, 1) := decode_ascii s pos h ha
/-! Where an iterator stands. -/
theorem rowv_iter {w : World} {base : Nat} {e : TypeId} {sz : Nat} {v : Value} {n : Nat} {xs : List Value} (h : RowV w base e sz v n xs) {k : Nat} {s : ByteArray} {pos : Nat} (hk : w.heap[k]? = some (.stringIter s pos)) (pos' : Nat) : RowV (w.iterAt k s pos') base e sz v n xs :=
  h.keep (fun j hj _ hs => Lib.iterAt_other w k j s pos' (fun he => by subst he; simp [World.shape?, hk] at hs))
theorem rowv_ne_iter {w : World} {base : Nat} {e : TypeId} {sz : Nat} {v : Value} {n : Nat} {xs : List Value} (h : RowV w base e sz v n xs) {k : Nat} {s : ByteArray} {pos : Nat} (hk : w.heap[k]? = some (.stringIter s pos)) : v.ownBlock ≠ some k := fun hj => by
  have hs := (h.lt hj).2.2
  simp [World.shape?, hk] at hs
theorem blk_ltI {w : World} {g : Nat} {o : Obj} (h : w.heap[g]? = some o) : g < w.heap.size := (Array.getElem?_eq_some_iff.1 h).1
theorem gb_below {a w w' : World} (h : Below a.heap.size a w) {row : Option Nat} (k : w.grownBy w' row) (hr : ∀ k, row = some k → a.heap.size ≤ k) : Below a.heap.size a w' :=
  ⟨k.os.trans h.os, k.tape.trans h.tape, k.output.trans h.output, Nat.le_trans h.size k.size, fun i hi => (k.block i (Nat.lt_of_lt_of_le hi h.size) (fun e => by have := hr i e.symm; omega)).trans (h.block i hi)⟩
theorem gb_keep {w w' : World} {row : Option Nat} (k : w.grownBy w' row) {g : Nat} {o : Obj} (h : w.heap[g]? = some o) (hne : row ≠ some g) : w'.heap[g]? = some o := (k.block g (blk_ltI h) (fun e => hne e.symm)).trans h
def WordsPost (s : ByteArray) (w : World) (e : Ending) (w' : World) : Prop := ∃ v, e = .returned v ∧ RowV w' w.heap.size 9 1 v (wordsL s.data.toList).length (strsV (wordsL s.data.toList)) ∧ Below w.heap.size w w'
def RWRel (s : ByteArray) (w : World) (v3 v4 v5 : Value) (wr : World) : Prop := ∃ (i f : Nat) (D : List (List UInt8)), v4 = .int .i64 f ∧ v5 = .int .i64 i ∧ i ≤ s.size + 1 ∧ D.length ≤ s.size + 1 ∧ f ≤ i ∧ Aside0 (i ≤ s.size → WAt s.data.toList i f D) ∧ Aside0 (¬ i ≤ s.size → D = wordsL s.data.toList) ∧ Aside0 (RowV wr w.heap.size 9 1 v3 D.length (strsV D)) ∧ Aside0 (Below w.heap.size w wr)
theorem eql_u8 (a : UInt8) : (((a.toNat : Nat) : Int) == 32) = decide (a = 32) := by
  rw [Bool.eq_iff_iff]
  simp only [beq_iff_eq, decide_eq_true_eq]
  constructor
  · intro h
    exact UInt8.toNat_inj.1 (by have : (32 : UInt8).toNat = 32 := rfl; omega)
  · intro h; subst h; rfl
theorem slice_run (s : ByteArray) (f i : Nat) (h1 : f ≤ i) (h2 : i ≤ s.size) (w : World) : (Instr.slice 9 (.string s) (some (.int .i64 (f : Int))) (some (.int .i64 (i : Int))) none).run Tryd.prog w = .ok (.string (tx ((s.data.toList.take i).drop f))) w := by
  have h := run_slice_string (P := Tryd.prog) (w := w) 9 s .i64 .i64 (f : Int) (i : Int) Tryd.underlying9 (by omega) (by omega) (by omega)
  rw [h, ← tx_extract]
  rfl
theorem slice_from (s : ByteArray) (f : Nat) (h1 : f ≤ s.size) (w : World) : (Instr.slice 9 (.string s) (some (.int .i64 (f : Int))) none none).run Tryd.prog w = .ok (.string (tx ((s.data.toList.take s.size).drop f))) w := by
  have h := run_slice_string_from_if (P := Tryd.prog) (w := w) 9 s .i64 (f : Int) Tryd.underlying9
  rw [h, if_pos ⟨by omega, by omega⟩, ← tx_extract]
  rfl
theorem byte_list (s : ByteArray) (i : Nat) (h : i < s.size) : bt s (i : Int) = ((s[i]'h).toNat : Int) := by
  unfold bt
  rw [dif_pos (by simpa using h)]
  rfl
theorem list_get (s : ByteArray) (j : Nat) (h : j < s.size) : s.data.toList[j]'(by rw [len_of]; exact h) = s[j]'h := by
  simp
  rfl
set_option maxHeartbeats 4000000 in
set_option maxRecDepth 100000 in
theorem rwords_any (s : ByteArray) (w : World) (hs : s.size ≤ 1000000) : Calls Tryd.prog 18 #[.string s] w (WordsPost s w) := by
  have hl := len_of s
  go_enter Tryd.func18, Tryd.ntmps18
  go_wp2_with fail
  go_loopw [3, 4, 5] (fun v3 v4 v5 wr => RWRel s w v3 v4 v5 wr) (fun _ _ v _ => s.size + 1 - (intOf v).toNat)
  case atStart => exact ⟨0, 0, [], rfl, rfl, by omega, by simp, by omega, ⟨fun _ => WAt.start _⟩, ⟨fun h => absurd (Nat.zero_le _) h⟩, ⟨by simpa [strsV] using RowV.nil w w.heap.size 9 1⟩, ⟨Below.refl _ _⟩⟩
  case round =>
    obtain ⟨i, f, D, rfl, rfl, hi, hD, hf, HW, HE, HR, HB⟩ := hrel
    by_cases h1 : i ≤ s.size
    · have q1 : decide ((i : Int) ≤ (s.size : Int)) = true := decide_eq_true (by omega)
      obtain ⟨X, hX⟩ : ∃ X, X = ((s.data.toList.take i).drop f) := ⟨_, rfl⟩
      have hsl := slice_run s f i hf h1
      have hD2 := (HW.out h1).2.2.1
      rw [← hX] at hsl
      have XR := Aside0.mk (HR.out.alloc (.cells #[.string (tx X)] 9))
      have XB := Aside0.mk (HB.out.alloc HB.out.size (.cells #[.string (tx X)] 9))
      have HNX := Aside0.mk (new_news wr [.string (tx X)] 9)
      have HX := Aside0.mk hX
      clear hX
      by_cases h2 : i = s.size
      · have q2 : ((i : Int) == (s.size : Int)) = true := by rw [h2]; simp
        have HE2 : Aside0 (D ++ [X] = wordsL s.data.toList) := ⟨by rw [HX.out]; exact (HW.out h1).done (by omega)⟩
        have H2 := Aside0.mk h2
        clear h2
        go_wp2_with (at_builtin; go_loud (refine row_append (w := wr.alloc (.cells #[.string (tx X)] 9)) rfl (.tmp 22) (.tmp 27) 38 rfl 9 Tryd.t9 (.string ByteArray.empty) 1 16 Tryd.underlying38 (by kernel_rfl) rfl rfl rfl (by decide) (by decide) w.heap.size _ D.length (strsV D) (by rfl) XR.out ⟨wr.heap.size, 0, none⟩ 1 1 [.string (tx X)] (by rfl) rfl HNX.out (by simp [Value.oneCell']) (by simp only [maxLen]; omega) (by omega) XB.out.size ?_); intro v1 w6 hR6 hG6 hO6 hF6; have XB' := Aside0.mk (gb_below XB.out hG6 (fun k hk => (XR.out.lt hk).2.1)); have HR6 := Aside0.mk hR6; clear hR6 hG6 hO6 hF6)
        refine ⟨⟨i + 1, i + 1, D ++ [X], ?_, ?_, by omega, by simp; omega, by omega, ⟨fun h => absurd h (by have := H2.out; omega)⟩, ⟨fun _ => HE2.out⟩, ⟨?_⟩, XB'⟩, ?_⟩
        all_goals first
          | (simp; done)
          | (rw [strsV_snoc, List.length_append]; exact HR6.out)
          | (simp [intOf]; omega)
      · have q2 : ((i : Int) == (s.size : Int)) = false := by simp; omega
        have hlt : i < s.size := by omega
        have HC : Aside0 (s.data.toList[i]'(by rw [hl]; exact hlt) = s[i]'hlt) := ⟨list_get s i hlt⟩
        by_cases h3 : s[i]'hlt = 32
        · have q3 : (((s[i]'hlt).toNat : Int) == 32) = true := by rw [eql_u8]; exact decide_eq_true h3
          have HW2 : Aside0 (WAt s.data.toList (i + 1) (i + 1) (D ++ [X])) := ⟨by rw [HX.out]; exact (HW.out h1).blank (by rw [hl]; exact hlt) (by rw [HC.out]; exact h3)⟩
          clear h3
          go_wp2_with (at_builtin; go_loud (refine row_append (w := wr.alloc (.cells #[.string (tx X)] 9)) rfl (.tmp 22) (.tmp 27) 38 rfl 9 Tryd.t9 (.string ByteArray.empty) 1 16 Tryd.underlying38 (by kernel_rfl) rfl rfl rfl (by decide) (by decide) w.heap.size _ D.length (strsV D) (by rfl) XR.out ⟨wr.heap.size, 0, none⟩ 1 1 [.string (tx X)] (by rfl) rfl HNX.out (by simp [Value.oneCell']) (by simp only [maxLen]; omega) (by omega) XB.out.size ?_); intro v1 w6 hR6 hG6 hO6 hF6; have XB' := Aside0.mk (gb_below XB.out hG6 (fun k hk => (XR.out.lt hk).2.1)); have HR6 := Aside0.mk hR6; clear hR6 hG6 hO6 hF6)
          refine ⟨⟨i + 1, i + 1, D ++ [X], ?_, ?_, by omega, by simp; omega, by omega, ⟨fun _ => HW2.out⟩, ⟨fun h => absurd (by omega) h⟩, ⟨?_⟩, XB'⟩, ?_⟩
          all_goals first
            | (simp; done)
            | (rw [strsV_snoc, List.length_append]; exact HR6.out)
            | (simp [intOf]; omega)
        · have q3 : (((s[i]'hlt).toNat : Int) == 32) = false := by rw [eql_u8]; exact decide_eq_false h3
          have HW2 : Aside0 (WAt s.data.toList (i + 1) f D) := ⟨(HW.out h1).chars 1 (by rw [hl]; exact hlt) (fun j hj1 hj2 => by
            obtain rfl : j = i := by omega
            rw [List.getElem?_eq_getElem (by rw [hl]; exact hlt), HC.out]
            exact fun e => h3 (Option.some.inj e))⟩
          clear h3
          go_wp2_with fail
          refine ⟨⟨i + 1, f, D, ?_, ?_, by omega, by omega, by omega, ⟨fun _ => HW2.out⟩, ⟨fun h => absurd (by omega) h⟩, HR, HB⟩, ?_⟩
          all_goals first
            | (simp; done)
            | (simp [intOf]; omega)
    · have q1 : decide ((i : Int) ≤ (s.size : Int)) = false := decide_eq_false (by omega)
      have HE2 := Aside0.mk (HE.out h1)
      go_wp2_with fail
      go_ret
      refine ⟨_, rfl, ?_, HB.out⟩
      have h := HR.out
      rw [HE2.out] at h
      exact h
def PWRel (s : ByteArray) (w : World) (v3 v4 : Value) (wr : World) : Prop := ∃ (i f : Nat) (D : List (List UInt8)), v4 = .int .i64 f ∧ i ≤ s.size ∧ D.length ≤ s.size ∧ f ≤ i ∧ Aside0 (WAt s.data.toList i f D) ∧ wr.heap[w.heap.size]? = some (.stringIter s i) ∧ Aside0 (RowV wr w.heap.size 9 1 v3 D.length (strsV D)) ∧ Aside0 (Below w.heap.size w wr)
set_option maxHeartbeats 4000000 in
set_option maxRecDepth 100000 in
theorem words_any (s : ByteArray) (w : World) (hs : s.size ≤ 1000000) : Calls Tryd.prog 15 #[.string s] w (WordsPost s w) := by
  have hl := len_of s
  go_enter Tryd.func15, Tryd.ntmps15
  go_wp2_with fail
  go_loopw [3, 4, 5, 6] (fun v3 v4 _ _ wr => PWRel s w v3 v4 wr) (fun _ _ _ _ wr => s.size - wr.iterPos w.heap.size)
  case atStart =>
    refine ⟨0, 0, [], rfl, by omega, by simp, by omega, ⟨WAt.start _⟩, ?_, ⟨by simpa [strsV] using RowV.nil _ w.heap.size 9 1⟩, ⟨?_⟩⟩
    · have := World.iter_heap w s 0
      simpa using this
    · exact (Below.refl _ w).alloc (Nat.le_refl _) _
  case round =>
    obtain ⟨i, f, D, rfl, hi, hD, hf, HW, hit, HR, HB⟩ := hrel
    have hkl := blk_ltI hit
    have hD2 := HW.out.2.2.1
    by_cases hp : i < s.size
    · have hnx : ∀ ty, (Instr.next (.pointer (some ⟨w.heap.size, 0, none⟩)) true ty).run Tryd.prog wr = _ := fun ty => Lib.run_next_any_at wr w.heap.size s i ty hit hp
      have hd1 := decode_le s i
      obtain ⟨c, hc⟩ : ∃ c, c = (Utf8.decode s i).1 := ⟨_, rfl⟩
      obtain ⟨k, hk⟩ : ∃ k, k = (Utf8.decode s i).2 := ⟨_, rfl⟩
      rw [← hc] at hd1
      have hnx2 : ∀ ty, (Instr.next (.pointer (some ⟨w.heap.size, 0, none⟩)) true ty).run Tryd.prog wr = .ok (.tuple #[.bool true, .int .i64 i, .int .i32 c]) (wr.iterAt w.heap.size s (i + k)) := by
        rw [hc, hk]; exact hnx
      clear hnx
      have HC := Aside0.mk hc
      have HK := Aside0.mk hk
      clear hc hk
      obtain ⟨W1, hW1⟩ : ∃ W1, W1 = wr.iterAt w.heap.size s (i + k) := ⟨_, rfl⟩
      have hit2 : W1.heap[w.heap.size]? = some (.stringIter s (i + k)) := by rw [hW1]; exact Lib.iterAt_heap wr w.heap.size s i (i + k) hit
      have hR1 := rowv_iter HR.out hit (i + k)
      rw [← hW1] at hR1
      have HR1 := Aside0.mk hR1
      clear hR1
      have HB1 := Aside0.mk (show Below w.heap.size w W1 by rw [hW1]; exact Lib.below_iterAt HB.out (Nat.le_refl _) s _)
      rw [← hW1] at hnx2
      clear hW1
      have HIT := Aside0.mk hit
      clear hit
      have hcase : ((c = 32 ∧ k = 1 ∧ s.data.toList[i]? = some 32) ∨ (c ≠ 32 ∧ 1 ≤ k ∧ i + k ≤ s.size ∧ ∀ j, i ≤ j → j < i + k → s.data.toList[j]? ≠ some 32)) := by
        rw [HC.out, HK.out]
        by_cases ha : (s[i]'hp).toNat < 128
        · rw [ascii_wide s i hp ha]
          by_cases h32 : s[i]'hp = 32
          · exact .inl ⟨by show (s[i]'hp).toNat = 32; rw [h32]; rfl, rfl, by rw [list_at s i hp, h32]⟩
          · refine .inr ⟨fun e => h32 (UInt8.toNat_inj.1 (by have : (32 : UInt8).toNat = 32 := rfl; rw [this]; exact e)), Nat.le_refl _, by show i + 1 ≤ _; omega, ?_⟩
            intro j h1 h2 e
            have h2' : j < i + 1 := h2
            obtain rfl : j = i := by omega
            rw [list_at s j hp] at e
            exact h32 (Option.some.inj e)
        · have h9 := decode_wide s i hp (by omega)
          have h8 := decode_high s i hp (by omega)
          exact .inr ⟨by omega, h8.2, h9.1, h9.2⟩
      rcases hcase with ⟨h1, h2, h3⟩ | ⟨h1, h2, h3, h4⟩
      · have q1 : ((c : Int) == 32) = true := by rw [h1]; rfl
        obtain ⟨X, hX⟩ : ∃ X, X = ((s.data.toList.take i).drop f) := ⟨_, rfl⟩
        have hsl := slice_run s f i hf hi
        rw [← hX] at hsl
        have XR := Aside0.mk (HR1.out.alloc (.cells #[.string (tx X)] 9))
        have XB := Aside0.mk (HB1.out.alloc HB1.out.size (.cells #[.string (tx X)] 9))
        have XI := Aside0.mk ((Below.heap_alloc W1 (.cells #[.string (tx X)] 9) w.heap.size (blk_ltI hit2)).trans hit2)
        have HNX := Aside0.mk (new_news W1 [.string (tx X)] 9)
        have HW2 : Aside0 (WAt s.data.toList (i + 1) (i + 1) (D ++ [X])) := ⟨by
          rw [hX]
          refine HW.out.blank (by rw [hl]; exact hp) ?_
          rw [List.getElem?_eq_getElem (by rw [hl]; exact hp)] at h3
          exact Option.some.inj h3⟩
        subst h2
        clear h1 h3 hX hit2
        go_wp2_with (at_builtin; go_loud (refine row_append (w := W1.alloc (.cells #[.string (tx X)] 9)) rfl (.tmp 15) (.tmp 20) 38 rfl 9 Tryd.t9 (.string ByteArray.empty) 1 16 Tryd.underlying38 (by kernel_rfl) rfl rfl rfl (by decide) (by decide) w.heap.size _ D.length (strsV D) (by rfl) XR.out ⟨W1.heap.size, 0, none⟩ 1 1 [.string (tx X)] (by rfl) rfl HNX.out (by simp [Value.oneCell']) (by simp only [maxLen]; omega) (by omega) XB.out.size ?_); intro v1 w6 hR6 hG6 hO6 hF6; have XB' := Aside0.mk (gb_below XB.out hG6 (fun k hk => (XR.out.lt hk).2.1)); have XI' := Aside0.mk (gb_keep hG6 XI.out (rowv_ne_iter XR.out XI.out)); have HR6 := Aside0.mk hR6; clear hR6 hG6 hO6 hF6)
        refine ⟨⟨i + 1, i + 1, D ++ [X], ?_, by omega, by simp; omega, by omega, HW2, XI'.out, ⟨?_⟩, XB'⟩, ?_⟩
        all_goals first
          | (simp; done)
          | (rw [strsV_snoc, List.length_append]; exact HR6.out)
          | (simp only [World.iterPos, XI'.out, HIT.out]; omega)
      · have q1 : ((c : Int) == 32) = false := by simp; omega
        have HW2 : Aside0 (WAt s.data.toList (i + k) f D) := ⟨HW.out.chars k (by rw [hl]; exact h3) h4⟩
        clear h1 h4
        go_wp2_with fail
        refine ⟨⟨i + k, f, D, ?_, h3, by omega, by omega, HW2, hit2, HR1, HB1⟩, ?_⟩
        all_goals first
          | (simp; done)
          | (simp only [World.iterPos, hit2, HIT.out]; omega)
    · have hnx : ∀ ty, (Instr.next (.pointer (some ⟨w.heap.size, 0, none⟩)) true ty).run Tryd.prog wr = _ := fun ty => Lib.run_next_end_at wr w.heap.size s i ty hit hp
      obtain ⟨X, hX⟩ : ∃ X, X = ((s.data.toList.take s.size).drop f) := ⟨_, rfl⟩
      have hsl := slice_from s f (by omega)
      rw [← hX] at hsl
      have XR := Aside0.mk (HR.out.alloc (.cells #[.string (tx X)] 9))
      have XB := Aside0.mk (HB.out.alloc HB.out.size (.cells #[.string (tx X)] 9))
      have HNX := Aside0.mk (new_news wr [.string (tx X)] 9)
      have HE2 : Aside0 (D ++ [X] = wordsL s.data.toList) := ⟨by rw [hX, show s.size = i by omega]; exact HW.out.done (by omega)⟩
      clear hX hit
      go_wp2_with (at_builtin; go_loud (refine row_append (w := wr.alloc (.cells #[.string (tx X)] 9)) rfl (.tmp 24) (.tmp 28) 38 rfl 9 Tryd.t9 (.string ByteArray.empty) 1 16 Tryd.underlying38 (by kernel_rfl) rfl rfl rfl (by decide) (by decide) w.heap.size _ D.length (strsV D) (by rfl) XR.out ⟨wr.heap.size, 0, none⟩ 1 1 [.string (tx X)] (by rfl) rfl HNX.out (by simp [Value.oneCell']) (by simp only [maxLen]; omega) (by omega) XB.out.size ?_); intro v1 w6 hR6 hG6 hO6 hF6; have XB' := Aside0.mk (gb_below XB.out hG6 (fun k hk => (XR.out.lt hk).2.1)); have HR6 := Aside0.mk hR6; clear hR6 hG6 hO6 hF6)
      go_ret
      refine ⟨_, rfl, ?_, XB'.out⟩
      rw [← HE2.out, strsV_snoc, List.length_append]
      exact HR6.out
end Go.Proofs.YtkjjjgplidompaaDoor.B
