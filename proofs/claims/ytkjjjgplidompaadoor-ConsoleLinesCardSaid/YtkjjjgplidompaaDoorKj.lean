/-
  Bytes as digits: the program's hex. Same. Walks.
-/
import Derived.Test.YtkjjjgplidompaaDoorKi
namespace Go.Proofs.YtkjjjgplidompaaDoor.B
open Go.RowKit Go.Proofs.YtkjjjgplidompaaDoorW.PrintWords Go.Proofs.YtkjjjgplidompaaDoorW.PrintLast Go.Proofs.YtkjjjgplidompaaDoorW.PrintMore
set_option linter.unusedVariables false
set_option linter.unusedSimpArgs false
theorem hexP_append : ∀ (a b : List UInt8), hexP (a ++ b) = hexP a ++ hexP b
  | [], b => rfl
  | c :: a, b => by rw [List.cons_append, hexP, hexP, hexP_append a b]; rfl
theorem hexP_length : ∀ a : List UInt8, (hexP a).length = 2 * a.length
  | [] => rfl
  | c :: a => by rw [hexP, List.length_cons, List.length_cons, List.length_cons, hexP_length a]; omega
theorem hexP_take (s : ByteArray) (i : Nat) (h : i < s.size) : hexP (s.data.toList.take (i + 1)) = hexP (s.data.toList.take i) ++ [hexDig ((s[i]'h).toNat / 16), hexDig ((s[i]'h).toNat % 16)] := by
  rw [List.take_add_one, list_at s i h, hexP_append]
  rfl
theorem hexs_get (k : Nat) (hk : k < 16) : ∀ h : k < ({ data := #[48, 49, 50, 51, 52, 53, 54, 55, 56, 57, 97, 98, 99, 100, 101, 102] } : ByteArray).size, ({ data := #[48, 49, 50, 51, 52, 53, 54, 55, 56, 57, 97, 98, 99, 100, 101, 102] } : ByteArray)[k]'h = hexDig k := by
  intro h
  rw [← hexAt_dig k hk]
  show hexs.toArray[k]'_ = _
  rw [List.getElem_toArray]
  unfold hexAt
  rw [List.getD_eq_getElem?_getD, List.getElem?_eq_getElem (by exact hk)]
  rfl
set_option maxRecDepth 100000 in
theorem and_15 (c : Nat) (h : c < 256) : bits BinOp.and IntKind.u8 ((c : Nat) : Int) 15 = ((c % 16 : Nat) : Int) := by
  have key : ∀ c : Fin 256, bits BinOp.and IntKind.u8 ((c.val : Nat) : Int) 15 = ((c.val % 16 : Nat) : Int) := by decide
  exact key ⟨c, h⟩
theorem byteCells_snoc (a : List UInt8) (b : UInt8) : Lib.byteCells (a ++ [b]) = Lib.byteCells a ++ [.int .u8 (b.toNat : Int)] := by
  rw [Lib.byteCells_append]; rfl
def HexRel (s : ByteArray) (w : World) (v9 : Value) (wr : World) : Prop := ∃ i : Nat, v9 = .int .i64 i ∧ i ≤ s.size ∧ Aside0 (Lib.IsBuilderF 76 5 w.heap.size w.heap.size (Lib.byteCells (hexP (s.data.toList.take i))) wr) ∧ Aside0 (Below w.heap.size w wr)
set_option maxHeartbeats 4000000 in
set_option maxRecDepth 100000 in
theorem hex_any (s : ByteArray) (w : World) (hs : s.size ≤ 1000000) : Calls Tryd.prog 22 #[.string s] w fun e w' => e = .returned (.string (tx (hexL s.data.toList))) ∧ Below w.heap.size w w' := by
  have hl := len_of s
  go_enter Tryd.func22, Tryd.ntmps22
  by_cases h1 : s.size = 0
  · have q1 : s.toList.isEmpty = true := by rw [str_emptyK]; exact decide_eq_true h1
    have HN := Aside0.mk (show hexL s.data.toList = [45] by unfold hexL; rw [if_pos (List.eq_nil_of_length_eq_zero (by omega))])
    clear h1
    go_wp2_with fail
    go_ret
    exact ⟨by rw [HN.out]; rfl, Below.refl _ _⟩
  have q1 : s.toList.isEmpty = false := by rw [str_emptyK]; exact decide_eq_false h1
  have HN := Aside0.mk (show hexL s.data.toList = hexP s.data.toList by unfold hexL; rw [if_neg (fun h => by rw [h] at hl; simp at hl; omega)])
  clear h1
  go_wp2_with fail
  go_loopw [4, 9] (fun _ v9 wr => HexRel s w v9 wr) (fun _ v _ => s.size - (intOf v).toNat)
  case atStart =>
    refine ⟨0, rfl, by omega, ⟨?_⟩, ⟨(Below.refl _ w).alloc (Nat.le_refl _) _⟩⟩
    exact Lib.IsBuilderF.of (Lib.fresh_isBuilder 76 5 w)
  case round =>
    obtain ⟨i, rfl, hi, HI, HB⟩ := hrel
    by_cases hlt : i < s.size
    · have p1 : decide ((i : Int) < (s.size : Int)) = true := decide_eq_true (by omega)
      have x1 := index_byte s i hlt
      have HT := Aside0.mk (hexP_take s i hlt)
      obtain ⟨c, hc⟩ : ∃ c, c = s[i]'hlt := ⟨_, rfl⟩
      rw [← hc] at x1 HT
      have hc8 := c.toNat_lt
      obtain ⟨hi4, hhi⟩ : ∃ h, h = c.toNat / 16 := ⟨_, rfl⟩
      obtain ⟨lo4, hlo⟩ : ∃ l, l = c.toNat % 16 := ⟨_, rfl⟩
      rw [← hhi, ← hlo] at HT
      have y1 := hexs_get (c.toNat / 16) (by omega)
      have y2 := hexs_get lo4 (by omega)
      obtain ⟨D1, hD1⟩ : ∃ D, D = hexDig (c.toNat / 16) := ⟨_, rfl⟩
      obtain ⟨D2, hD2⟩ : ∃ D, D = hexDig lo4 := ⟨_, rfl⟩
      rw [← hD1] at y1
      rw [← hD2] at y2 HT
      rw [← hhi] at hD1
      rw [← hD1] at HT
      have a1 := and_15 c.toNat hc8
      rw [← hlo] at a1
      have HH := Aside0.mk hhi
      have hhn : hi4 < 16 := by omega
      have hln : lo4 < 16 := by omega
      have hgl : ({ data := #[48, 49, 50, 51, 52, 53, 54, 55, 56, 57, 97, 98, 99, 100, 101, 102] } : ByteArray).size = 16 := rfl
      clear hc hlo hhi hD1 hD2
      go_wp2_with fail
      (try simp only [y1])
      refine (Tryd.Builder_WriteByte_k w.heap.size w.heap.size _ _ _ HI.out (by rw [Lib.byteCells_length, hexP_length, List.length_take]; omega) HB.out.size).mono ?_
      rintro e w3 ⟨rfl, h3, b3, _⟩
      have HB3 := Aside0.mk (HB.out.trans b3)
      have HI3 := Aside0.mk (Or.inr h3 : Lib.IsBuilderF 76 5 w.heap.size w.heap.size _ w3)
      clear h3 b3
      go_wp2_with fail
      refine (Tryd.Builder_WriteByte_k w.heap.size w.heap.size _ _ _ HI3.out (by rw [List.length_append, Lib.byteCells_length, hexP_length, List.length_take]; simp; omega) HB3.out.size).mono ?_
      rintro e w4 ⟨rfl, h4, b4, _⟩
      have HB4 := Aside0.mk (HB3.out.trans b4)
      have HI4 := Aside0.mk (Or.inr h4 : Lib.IsBuilderF 76 5 w.heap.size w.heap.size _ w4)
      clear h4 b4
      go_wp2_with fail
      refine ⟨⟨i + 1, by simp, by omega, ⟨?_⟩, HB4⟩, by simp [intOf]; omega⟩
      rw [HT.out, show [D1, D2] = [D1] ++ [D2] by rfl, ← List.append_assoc, byteCells_snoc, byteCells_snoc]
      exact HI4.out
    · have p1 : decide ((i : Int) < (s.size : Int)) = false := decide_eq_false (by omega)
      have hT : s.data.toList.take i = s.data.toList := List.take_of_length_le (by omega)
      rw [hT] at HI
      clear hT
      go_wp2_with fail
      refine (Tryd.Builder_String_any_k w.heap.size w.heap.size (hexP s.data.toList) _ HI.out HB.out.size).mono ?_
      rintro e w3 ⟨rfl, _, b3, _⟩
      go_wp2_with fail
      go_ret
      exact ⟨by rw [HN.out]; rfl, HB.out.trans b3⟩
/-! Are two steps alike? -/
def sameB (s t : LStep) : Bool := s.kind == t.kind && s.at_ == t.at_ && s.id == t.id && s.stream == t.stream && s.cls == t.cls && s.size == t.size && s.data == t.data
theorem sameB_true (s : LStep) : sameB s s = true := by simp [sameB]
theorem sameB_eq {s t : LStep} (h : sameB s t = true) : s = t := by
  unfold sameB at h
  simp only [Bool.and_eq_true, beq_iff_eq] at h
  obtain ⟨⟨⟨⟨⟨⟨h1, h2⟩, h3⟩, h4⟩, h5⟩, h6⟩, h7⟩ := h
  cases s; cases t
  simp only at h1 h2 h3 h4 h5 h6 h7
  subst h1 h2 h3 h4 h5 h6 h7
  rfl
theorem data_lit (a b : List UInt8) : ((tx a).toList == (tx b).toList) = (a == b) := by
  rw [ByteArray.toList_eq, ByteArray.toList_eq]
set_option maxHeartbeats 4000000 in
set_option maxRecDepth 100000 in
theorem same_any (s t : LStep) (w : World) : Calls Tryd.prog 10 #[stV s, stV t] w fun e w' => e = .returned (.bool (sameB s t)) ∧ Below w.heap.size w w' := by
  obtain ⟨a0, a1, a2, a3, a4, a5, a6⟩ := s
  obtain ⟨b0, b1, b2, b3, b4, b5, b6⟩ := t
  unfold stV stC
  dsimp only
  have HB : Aside0 (Below w.heap.size w ((w.alloc (.cells #[.int .i64 a0, .int .i64 a1, .int .i64 a2, .int .i64 a3, .int .i64 a4, .int .i64 a5, .string (tx a6)] 26)).alloc (.cells #[.int .i64 b0, .int .i64 b1, .int .i64 b2, .int .i64 b3, .int .i64 b4, .int .i64 b5, .string (tx b6)] 26))) := ⟨((Below.refl _ w).alloc (Nat.le_refl _) _).alloc (by simp) _⟩
  go_enter Tryd.func10, Tryd.ntmps10
  cases e0 : (a0 == b0)
  · have HS := Aside0.mk (show sameB ⟨a0, a1, a2, a3, a4, a5, a6⟩ ⟨b0, b1, b2, b3, b4, b5, b6⟩ = false by simp [sameB, e0])
    go_wp2_with fail
    go_ret
    exact ⟨by rw [HS.out]; rfl, HB.out⟩
  cases e1 : (a1 == b1)
  · have HS := Aside0.mk (show sameB ⟨a0, a1, a2, a3, a4, a5, a6⟩ ⟨b0, b1, b2, b3, b4, b5, b6⟩ = false by simp [sameB, e0, e1])
    go_wp2_with fail
    go_ret
    exact ⟨by rw [HS.out]; rfl, HB.out⟩
  cases e2 : (a2 == b2)
  · have HS := Aside0.mk (show sameB ⟨a0, a1, a2, a3, a4, a5, a6⟩ ⟨b0, b1, b2, b3, b4, b5, b6⟩ = false by simp [sameB, e0, e1, e2])
    go_wp2_with fail
    go_ret
    exact ⟨by rw [HS.out]; rfl, HB.out⟩
  cases e3 : (a3 == b3)
  · have HS := Aside0.mk (show sameB ⟨a0, a1, a2, a3, a4, a5, a6⟩ ⟨b0, b1, b2, b3, b4, b5, b6⟩ = false by simp [sameB, e0, e1, e2, e3])
    go_wp2_with fail
    go_ret
    exact ⟨by rw [HS.out]; rfl, HB.out⟩
  cases e4 : (a4 == b4)
  · have HS := Aside0.mk (show sameB ⟨a0, a1, a2, a3, a4, a5, a6⟩ ⟨b0, b1, b2, b3, b4, b5, b6⟩ = false by simp [sameB, e0, e1, e2, e3, e4])
    go_wp2_with fail
    go_ret
    exact ⟨by rw [HS.out]; rfl, HB.out⟩
  cases e5 : (a5 == b5)
  · have HS := Aside0.mk (show sameB ⟨a0, a1, a2, a3, a4, a5, a6⟩ ⟨b0, b1, b2, b3, b4, b5, b6⟩ = false by simp [sameB, e0, e1, e2, e3, e4, e5])
    go_wp2_with fail
    go_ret
    exact ⟨by rw [HS.out]; rfl, HB.out⟩
  have HS := Aside0.mk (show sameB ⟨a0, a1, a2, a3, a4, a5, a6⟩ ⟨b0, b1, b2, b3, b4, b5, b6⟩ = (a6 == b6) by simp only [sameB, e0, e1, e2, e3, e4, e5, Bool.true_and])
  have hd := data_lit a6 b6
  go_wp2_with fail
  go_ret
  exact ⟨by rw [HS.out]; rfl, HB.out⟩
end Go.Proofs.YtkjjjgplidompaaDoor.B
