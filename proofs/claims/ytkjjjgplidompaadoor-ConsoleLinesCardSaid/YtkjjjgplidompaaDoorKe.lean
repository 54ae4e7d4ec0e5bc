/-
  The program's numbers, over the library's contracts. Walks.
-/
import Derived.Test.YtkjjjgplidompaaDoorKd
import Derived.Test.YtkjjjgplidompaaDoorShelf
import Derived.Test.YtkjjjgplidompaaDoorShelf3
import Derived.Lib.SmallJoins
import Derived.Lib.LaidTab
namespace Go.Proofs.YtkjjjgplidompaaDoor.B
open Go.RowKit Go.Proofs.YtkjjjgplidompaaDoorW.PrintWords Go.Proofs.YtkjjjgplidompaaDoorW.PrintLast Go.Proofs.YtkjjjgplidompaaDoorW.PrintMore
set_option linter.unusedVariables false
set_option linter.unusedSimpArgs false
/-- The library's table of powers stands as its text lays it. -/
def Tab (w : World) : Prop := Lib.TabIs Tryd.prog w "internal/strconv.uint64pow10" .u64 Lib.pow10Tab
theorem Tab.below {w w' : World} (h : Tab w) (hb : Below w.heap.size w w') : Tab w' := by
  unfold Tab Lib.TabIs World.var? at h ⊢
  cases hg : Tryd.prog.globalNamed "internal/strconv.uint64pow10" with
  | none => rw [hg] at h; simp at h
  | some g =>
    rw [hg] at h
    simp only [Option.bind_some] at h ⊢
    have hl : g < w.heap.size := by
      rcases Nat.lt_or_ge g w.heap.size with hl | hl
      · exact hl
      · rw [Array.getElem?_eq_none hl] at h; simp at h
    rw [hb.block g hl]
    exact h
theorem str_emptyK (s : ByteArray) : s.toList.isEmpty = decide (s.size = 0) := by
  rw [ByteArray.toList_eq, Bool.eq_iff_iff]
  simp only [List.isEmpty_iff, decide_eq_true_eq]
  exact ⟨fun h => (by have := congrArg List.length h; simpa using this), fun h => List.eq_nil_of_length_eq_zero (by simpa using h)⟩
theorem trim_any (s : ByteArray) (cs : List UInt8) (w : World) (hs : s.size ≤ 1000000) (hc : cs.length ≤ 100) (ha : cs.all (fun b => decide (b.toNat < 128)) = true) : Calls Tryd.prog 27 #[.string s, .string (tx cs)] w fun e w' => e = .returned (.string (tx (Lib.trimS s.data.toList cs))) ∧ Below w.heap.size w w' := by
  have h := Any.strings_Trim_laid Tryd.lays160 (by kernel_rfl) s (tx cs) w (by omega) (by rw [tx_size]; omega) (by rw [tx_data]; exact ascii_of_all ha)
  rw [tx_data] at h
  exact h
theorem parse_ok (s : ByteArray) (n : Nat) (hs : s.size ≤ 1000000) (h : Lib.parseIntB 64 s.data.toList = .ok (n : Int)) (w : World) : Calls Tryd.prog 28 #[.string s, .int .i64 10, .int .i64 64] w fun e w' => e = .returned (.tuple #[.int .i64 (n : Int), .nilIface]) ∧ Below w.heap.size w w' := by
  refine (Tryd.strconv_ParseInt_10_at64_ok s (by omega) n h w).mono ?_
  rintro e w' ⟨rfl, rfl | ⟨t, rfl⟩⟩
  · exact ⟨rfl, Below.refl _ _⟩
  · exact ⟨rfl, Go.Joins.below_bytesWorld _ w _ t (Nat.le_refl _)⟩
/-- What number gives. -/
def numV (l : List UInt8) (m : Nat) : Value := match numberL l m with | some n => .tuple #[.int .i64 (n : Int), .bool true] | none => .tuple #[.int .i64 0, .bool false]
theorem numV_none {l : List UInt8} {m : Nat} (h : numberL l m = none) : numV l m = .tuple #[.int .i64 0, .bool false] := by unfold numV; rw [h]
theorem numV_some {l : List UInt8} {m n : Nat} (h : numberL l m = some n) : numV l m = .tuple #[.int .i64 (n : Int), .bool true] := by unfold numV; rw [h]
def NumPost (l : List UInt8) (m : Nat) (w : World) (e : Ending) (w' : World) : Prop := e = .returned (numV l m) ∧ Below w.heap.size w w'
set_option maxHeartbeats 4000000 in
set_option maxRecDepth 100000 in
theorem number_any (s : ByteArray) (m : Nat) (w : World) (hm : m ≤ 18) (hs : s.size ≤ 1000000) : Calls Tryd.prog 16 #[.string s, .int .i64 (m : Int)] w (NumPost s.data.toList m w) := by
  have hl := len_of s
  go_enter Tryd.func16, Tryd.ntmps16
  by_cases h0 : s.size = 0
  · have q0 : s.toList.isEmpty = true := by rw [str_emptyK]; exact decide_eq_true h0
    have HN := Aside0.mk (numV_none (number_fails s.data.toList m (.inl (List.eq_nil_of_length_eq_zero (by omega)))))
    clear h0
    go_wp2_with fail
    go_ret2
    exact ⟨by rw [HN.out]; rfl, Below.refl _ _⟩
  have q0 : s.toList.isEmpty = false := by rw [str_emptyK]; exact decide_eq_false h0
  by_cases h1 : m < s.size
  · have q1 : decide ((m : Int) < (s.size : Int)) = true := decide_eq_true (by omega)
    have HN := Aside0.mk (numV_none (number_fails s.data.toList m (.inr (.inl (by omega)))))
    go_wp2_with fail
    go_ret2
    exact ⟨by rw [HN.out]; rfl, Below.refl _ _⟩
  have q1 : decide ((m : Int) < (s.size : Int)) = false := decide_eq_false (by omega)
  have hz : 0 < s.size := by omega
  have hhd := Aside0.mk (head_at s hz)
  by_cases h2 : 1 < s.size ∧ s[0]'hz = 48
  · have q2 : decide (1 < (s.size : Int)) = true := decide_eq_true (by omega)
    have q3 : (((s[0]'hz).toNat : Int) == 48) = true := by rw [h2.2]; rfl
    have HN := Aside0.mk (numV_none (number_fails s.data.toList m (.inr (.inr (.inl ⟨by omega, by rw [hhd.out, h2.2]⟩)))))
    clear h2
    go_wp2_with fail
    go_ret2
    exact ⟨by rw [HN.out]; rfl, Below.refl _ _⟩
  have HH : Aside0 (¬ (1 < s.data.toList.length ∧ s.data.toList.head? = some 48)) := ⟨fun h => h2 ⟨by have := h.1; omega, by have := h.2; rw [hhd.out] at this; exact Option.some.inj this⟩⟩
  have HT : Aside0 ((decide (1 < (s.size : Int)) = false) ∨ (decide (1 < (s.size : Int)) = true ∧ (((s[0]'hz).toNat : Int) == 48) = false)) := by
    by_cases hq : 1 < s.size
    · refine ⟨.inr ⟨decide_eq_true (by omega), ?_⟩⟩
      refine beq_eq_false_iff_ne.2 (fun e => h2 ⟨hq, UInt8.toNat_inj.1 ?_⟩)
      have h48 : (48 : UInt8).toNat = 48 := rfl
      omega
    · exact ⟨.inl (decide_eq_false (by omega))⟩
  clear h2
  have HTR := Aside0.mk (trim_any s digs w hs (by decide) (by decide))
  obtain ⟨X, hX⟩ : ∃ X, X = Lib.trimS s.data.toList digs := ⟨_, rfl⟩
  rw [← hX] at HTR
  by_cases h4 : X = []
  · have HN := Aside0.mk (number_tests s.data.toList m (fun h => by rw [h] at hl; simp at hl; omega) (by omega) HH.out (by rw [← hX]; exact h4))
    obtain ⟨n, hn⟩ : ∃ n, n = decOf 0 s.data.toList := ⟨_, rfl⟩
    rw [← hn] at HN
    have HP := Aside0.mk (parse_number HN.out (by omega))
    have HV := Aside0.mk (numV_some HN.out)
    clear hn
    rw [h4] at HTR
    clear h4 hX
    rcases HT.out with q2 | ⟨q2, q3⟩
    all_goals
      go_wp2_with fail
      refine HTR.out.mono ?_
      rintro e w1 ⟨rfl, hb1⟩
      have HB := Aside0.mk hb1
      clear hb1
      go_wp2_with fail
      refine (parse_ok s n hs HP.out w1).mono ?_
      rintro e w2 ⟨rfl, hb2⟩
      have HB2 := Aside0.mk (HB.out.trans (hb2.mono HB.out.size))
      clear hb2
      go_wp2_with fail
      go_quiet (fail)
      go_wp2_with fail
      go_ret2
      exact ⟨by rw [HV.out]; rfl, pw_below_drewN HB2.out nq⟩
  · have q4 : X.isEmpty = false := by
      cases X with
      | nil => exact absurd rfl h4
      | cons _ _ => rfl
    have HN := Aside0.mk (numV_none (number_fails s.data.toList m (.inr (.inr (.inr (by rw [← hX]; exact h4))))))
    clear h4 hX
    rcases HT.out with q2 | ⟨q2, q3⟩
    all_goals
      go_wp2_with fail
      refine HTR.out.mono ?_
      rintro e w1 ⟨rfl, hb1⟩
      have HB := Aside0.mk hb1
      clear hb1
      go_wp2_with fail
      go_ret2
      exact ⟨by rw [HN.out]; rfl, HB.out⟩
/-! Bytes, two digits each. -/
theorem index_any (c : UInt8) (w : World) : Calls Tryd.prog 29 #[.string (tx hexs), .int .u8 (c.toNat : Int)] w fun e w' => e = .returned (.int .i64 (hexIx c)) ∧ w' = w := by
  have h := Tryd.strings_IndexByte (tx hexs) (c.toNat : Int) w
  rw [tx_data] at h
  have e : ((c.toNat : Int)).toNat.toUInt8 = c := by
    rw [Int.toNat_natCast]
    exact UInt8.ofNat_toNat
  rw [e, hexs_ix] at h
  exact h
def bytesV (l : List UInt8) : Value := match unhexL l with | some b => .tuple #[.string (tx b), .bool true] | none => .tuple #[.string (tx []), .bool false]
theorem bytesV_none {l : List UInt8} (h : unhexL l = none) : bytesV l = .tuple #[.string (tx []), .bool false] := by unfold bytesV; rw [h]
theorem bytesV_some {l b : List UInt8} (h : unhexL l = some b) : bytesV l = .tuple #[.string (tx b), .bool true] := by unfold bytesV; rw [h]
def BytesPost (l : List UInt8) (w : World) (e : Ending) (w' : World) : Prop := e = .returned (bytesV l) ∧ Below w.heap.size w w'
theorem isEmptyK {X : List UInt8} (h : ¬ X = []) : X.isEmpty = false := by
  cases X with
  | nil => exact absurd rfl h
  | cons _ _ => rfl
theorem eq_lit (s : ByteArray) (l : List UInt8) : (s.toList == l) = decide (s.data.toList = l) := by
  rw [ByteArray.toList_eq, Bool.eq_iff_iff]
  simp
end Go.Proofs.YtkjjjgplidompaaDoor.B
