/-
  The reference's numbers, digits and decimals. Walks.
-/
import Derived.Test.YtkjjjgplidompaaDoorKc
import Derived.Laws.Concat
namespace Go.Proofs.YtkjjjgplidompaaDoor.B
open Go.RowKit Go.Proofs.YtkjjjgplidompaaDoorW.PrintWords Go.Proofs.YtkjjjgplidompaaDoorW.PrintLast Go.Proofs.YtkjjjgplidompaaDoorW.PrintMore
set_option linter.unusedVariables false
set_option linter.unusedSimpArgs false
/-- A number, or -1. -/
def numR (l : List UInt8) (m : Nat) : Int := match numberL l m with | some n => (n : Int) | none => -1
theorem numR_none {l : List UInt8} {m : Nat} (h : numberL l m = none) : numR l m = -1 := by unfold numR; rw [h]
theorem number_size {l : List UInt8} {m : Nat} (h : l = [] ∨ m < l.length ∨ (1 < l.length ∧ l.head? = some 48)) : numR l m = -1 :=
  numR_none (number_fails l m (h.elim .inl (fun h => .inr (h.elim .inl (fun h => .inr (.inl h))))))
theorem numR_some {l : List UInt8} {m : Nat} (h1 : l ≠ []) (h2 : ¬ m < l.length) (h3 : ¬ (1 < l.length ∧ l.head? = some 48)) (h4 : l.all isDig = true) : numR l m = (decOf 0 l : Nat) := by
  unfold numR numberL
  rw [if_neg]
  intro h
  rcases h with h | h | h | h
  · exact h1 h
  · exact h2 h
  · exact h3 h
  · rw [h4] at h; cases h
theorem numR_bad {l : List UInt8} {m : Nat} (h : ∃ c ∈ l, isDig c = false) : numR l m = -1 := by
  obtain ⟨c, hc, h⟩ := h
  refine numR_none (number_bad (.inr (.inr ?_)))
  cases ha : l.all isDig with
  | false => rfl
  | true => rw [List.all_eq_true.1 ha c hc] at h; cases h
theorem take_dec (l : List UInt8) (i : Nat) (h : i < l.length) : decOf 0 (l.take (i + 1)) = decOf 0 (l.take i) * 10 + ((l[i]'h).toNat - 48) := by
  rw [List.take_add_one, List.getElem?_eq_getElem h]
  show decOf 0 (l.take i ++ [l[i]]) = _
  rw [decOf_append]
  rfl
theorem take_all (l : List UInt8) (i : Nat) (h : i < l.length) (ha : (l.take i).all isDig = true) (hd : isDig (l[i]'h) = true) : (l.take (i + 1)).all isDig = true := by
  rw [List.take_add_one, List.getElem?_eq_getElem h, List.all_append, ha]
  simpa using hd
theorem dec_bound (l : List UInt8) (i : Nat) (ha : (l.take i).all isDig = true) (hi : i ≤ 17) : decOf 0 (l.take i) < 10 ^ 17 := by
  have h := decOf_lt (l.take i) 0 0 (by simp) ha
  refine Nat.lt_of_lt_of_le h (Nat.pow_le_pow_right (by omega) ?_)
  have := List.length_take_le i l
  omega
theorem head_at (s : ByteArray) (h : 0 < s.size) : s.data.toList.head? = some (s[0]'h) := by
  rw [List.head?_eq_getElem?, list_at s 0 h]
def NumRel (s : ByteArray) (v5 v6 : Value) : Prop := ∃ i acc : Nat, v5 = .int .i64 acc ∧ v6 = .int .i64 i ∧ i ≤ s.size ∧ Aside0 (acc = decOf 0 (s.data.toList.take i)) ∧ Aside0 ((s.data.toList.take i).all isDig = true)
set_option maxHeartbeats 4000000 in
set_option maxRecDepth 100000 in
theorem rnumber_any (s : ByteArray) (m : Nat) (w : World) (hm : m ≤ 18) (hs : s.size ≤ 1000000) : Calls Tryd.prog 19 #[.string s, .int .i64 (m : Int)] w fun e w' => e = .returned (.int .i64 (numR s.data.toList m)) ∧ w' = w := by
  have hl := len_of s
  go_enter Tryd.func19, Tryd.ntmps19
  by_cases h0 : s.size = 0
  · have q0 : decide ((s.size : Int) < 1) = true := decide_eq_true (by omega)
    have HN := Aside0.mk (number_size (l := s.data.toList) (m := m) (.inl (List.eq_nil_of_length_eq_zero (by omega))))
    clear h0
    go_wp2_with fail
    go_ret
    exact ⟨by rw [HN.out]; rfl, rfl⟩
  have q0 : decide ((s.size : Int) < 1) = false := decide_eq_false (by omega)
  by_cases h1 : m < s.size
  · have q1 : decide ((m : Int) < (s.size : Int)) = true := decide_eq_true (by omega)
    have HN := Aside0.mk (number_size (l := s.data.toList) (m := m) (.inr (.inl (by omega))))
    go_wp2_with fail
    go_ret
    exact ⟨by rw [HN.out]; rfl, rfl⟩
  have q1 : decide ((m : Int) < (s.size : Int)) = false := decide_eq_false (by omega)
  have hz : 0 < s.size := by omega
  have hhd := Aside0.mk (head_at s hz)
  by_cases h2 : 1 < s.size ∧ s[0]'hz = 48
  · have q2 : decide (1 < (s.size : Int)) = true := decide_eq_true (by omega)
    have q3 : (((s[0]'hz).toNat : Int) == 48) = true := by rw [h2.2]; rfl
    have HN := Aside0.mk (number_size (l := s.data.toList) (m := m) (.inr (.inr ⟨by omega, by rw [hhd.out, h2.2]⟩)))
    clear h2
    go_wp2_with fail
    go_ret
    exact ⟨by rw [HN.out]; rfl, rfl⟩
  have HH : Aside0 (¬ (1 < s.data.toList.length ∧ s.data.toList.head? = some 48)) := ⟨fun h => h2 ⟨by have := h.1; omega, by have := h.2; rw [hhd.out] at this; exact Option.some.inj this⟩⟩
  have HT : Aside0 ((decide (1 < (s.size : Int)) = false) ∨ (decide (1 < (s.size : Int)) = true ∧ (((s[0]'hz).toNat : Int) == 48) = false)) := by
    by_cases hq : 1 < s.size
    · refine ⟨.inr ⟨decide_eq_true (by omega), ?_⟩⟩
      refine beq_eq_false_iff_ne.2 (fun e => h2 ⟨hq, UInt8.toNat_inj.1 ?_⟩)
      have h48 : (48 : UInt8).toNat = 48 := rfl
      omega
    · exact ⟨.inl (decide_eq_false (by omega))⟩
  clear h2
  have hfin : ∀ (K : Prop), True := fun _ => trivial
  clear hfin
  rcases HT.out with q2 | ⟨q2, q3⟩
  all_goals
    go_wp2_with fail
    go_loopw [5, 6] (fun v5 v6 wr => NumRel s v5 v6 ∧ wr = w) (fun _ v _ => s.size - (intOf v).toNat)
    case atStart => exact ⟨⟨0, 0, rfl, rfl, by omega, ⟨rfl⟩, ⟨rfl⟩⟩, rfl⟩
    case round =>
      obtain ⟨⟨i, acc, rfl, rfl, hi, HA, HD⟩, rfl⟩ := hrel
      by_cases hlt : i < s.size
      · have p1 : decide ((i : Int) < (s.size : Int)) = true := decide_eq_true (by omega)
        obtain ⟨c, hc⟩ : ∃ c, c = (s[i]'hlt).toNat := ⟨_, rfl⟩
        have hcc : ∀ h : i < s.size, (s[i]'h).toNat = c := fun _ => hc.symm
        have HC : Aside0 ((s.data.toList[i]'(by omega)) = s[i]'hlt) := ⟨list_get s i hlt⟩
        have hc8 : c < 256 := by rw [hc]; exact (s[i]'hlt).toNat_lt
        have HC2 := Aside0.mk hc
        clear hc
        by_cases hd : 48 ≤ c ∧ c ≤ 57
        · have p2 : decide ((c : Int) < 48) = false := decide_eq_false (by omega)
          have p3 : decide (57 < (c : Int)) = false := decide_eq_false (by omega)
          have HD2 := Aside0.mk (take_all s.data.toList i (by omega) HD.out (by rw [HC.out]; simp only [isDig, decide_eq_true_eq]; rw [← HC2.out]; exact hd))
          have HA2 : Aside0 (acc * 10 + (c - 48) = decOf 0 (s.data.toList.take (i + 1))) := ⟨by rw [take_dec _ _ (by omega), HC.out, ← HC2.out, HA.out]⟩
          have hb : acc < 10 ^ 17 := by rw [HA.out]; exact dec_bound _ _ HD.out (by omega)
          go_wp2_with fail
          refine ⟨⟨⟨i + 1, acc * 10 + (c - 48), by rw [show ((acc * 10 + (c - 48) : Nat) : Int) = (acc : Int) * 10 + ((c : Int) - 48) by omega], by simp, by omega, HA2, HD2⟩, trivial⟩, by simp [intOf]; omega⟩
        · have HN : Aside0 (numR s.data.toList m = -1) := ⟨numR_bad ⟨s[i]'hlt, by rw [← HC.out]; exact List.getElem_mem _, by simp only [isDig, decide_eq_false_iff_not]; rw [← HC2.out]; exact hd⟩⟩
          have HX : Aside0 (decide ((c : Int) < 48) = true ∨ (decide ((c : Int) < 48) = false ∧ decide (57 < (c : Int)) = true)) := by
            by_cases hx : c < 48
            · exact ⟨.inl (decide_eq_true (by omega))⟩
            · exact ⟨.inr ⟨decide_eq_false (by omega), decide_eq_true (by omega)⟩⟩
          rcases HX.out with p2 | ⟨p2, p3⟩
          all_goals
            go_wp2_with fail
            go_ret
            exact ⟨by rw [HN.out]; rfl, rfl⟩
      · have p1 : decide ((i : Int) < (s.size : Int)) = false := decide_eq_false (by omega)
        have HN : Aside0 (numR s.data.toList m = (acc : Int)) := ⟨by
          have e : s.data.toList.take i = s.data.toList := List.take_of_length_le (by omega)
          have hd := HD.out
          have ha := HA.out
          rw [e] at hd ha
          rw [numR_some (fun h => by rw [h] at hl; simp at hl; omega) (by omega) HH.out hd, ha]⟩
        go_wp2_with fail
        go_ret
        exact ⟨by rw [HN.out]; rfl, rfl⟩
/-! Digits of bytes. -/
def hexAt (k : Nat) : UInt8 := hexs.getD k 0
theorem hexAt_val (k : Nat) (hk : k < 16) : hexVal (hexAt k) = some k := by
  have h : ∀ k : Fin 16, hexVal (hexAt k.val) = some k.val := by decide
  exact h ⟨k, hk⟩
theorem hexAt_dig (k : Nat) (hk : k < 16) : hexAt k = hexDig k := (hexDig_val (hexAt_val k hk)).symm
theorem hexs_at (k : Nat) (hk : k < 16) (c : UInt8) : (hexAt k = c) ↔ hexIx c = (k : Int) := by
  constructor
  · intro h
    unfold hexIx
    rw [← h, hexAt_val k hk]
  · intro h
    unfold hexIx at h
    cases hv : hexVal c with
    | none => rw [hv] at h; simp at h
    | some n =>
      rw [hv] at h
      have hn : n = k := by simp at h; omega
      have h1 := hexDig_val hv
      have h2 := hexDig_val (hexAt_val k hk)
      rw [← h1, ← h2, hn]
set_option maxRecDepth 100000 in
theorem hexs_index (k : Nat) (hk : k < 16) (w : World) : (Instr.index 9 (.string { data := #[48, 49, 50, 51, 52, 53, 54, 55, 56, 57, 97, 98, 99, 100, 101, 102] }) (.int .i64 (k : Int))).run Tryd.prog w = .ok (.int .u8 ((hexAt k).toNat : Int)) w := by
  have h := run_index_string (P := Tryd.prog) (w := w) 9 (tx hexs) .i64 (k : Int) Tryd.underlying9
  have hs : (tx hexs).size = 16 := rfl
  refine h.trans ?_
  rw [dif_pos ⟨by omega, by rw [hs]; omega⟩]
  congr 3
  show (hexs.toArray[(k : Int).toNat]'_).toNat = _
  simp only [Int.toNat_natCast, List.getElem_toArray]
  unfold hexAt
  rw [List.getD_eq_getElem?_getD, List.getElem?_eq_getElem (by exact hk)]
  rfl
theorem u8_beq (a b : UInt8) : (((a.toNat : Nat) : Int) == (b.toNat : Int)) = decide (a = b) := by
  rw [Bool.eq_iff_iff]
  simp only [beq_iff_eq, decide_eq_true_eq]
  exact ⟨fun h => UInt8.toNat_inj.1 (by omega), fun h => by rw [h]⟩
set_option maxHeartbeats 4000000 in
set_option maxRecDepth 100000 in
theorem digit_any (c : UInt8) (w : World) : Calls Tryd.prog 30 #[.int .u8 (c.toNat : Int)] w fun e w' => e = .returned (.int .i64 (hexIx c)) ∧ w' = w := by
  have hix : -1 ≤ hexIx c ∧ hexIx c < 16 := by
    unfold hexIx
    cases hv : hexVal c with
    | none => simp
    | some n => have := hexVal_lt hv; simp; omega
  go_enter Tryd.func30, Tryd.ntmps30
  go_wp2_with fail
  go_loopw [3] (fun v3 wr => (∃ i : Nat, v3 = .int .i64 i ∧ i ≤ 16 ∧ ∀ j : Nat, j < i → hexIx c ≠ (j : Int)) ∧ wr = w) (fun v _ => 16 - (intOf v).toNat)
  case atStart => exact ⟨⟨0, rfl, by omega, fun j hj => absurd hj (by omega)⟩, rfl⟩
  case round =>
    obtain ⟨⟨i, rfl, hi, hno⟩, rfl⟩ := hrel
    by_cases hlt : i < 16
    · have p1 : decide ((i : Int) < 16) = true := decide_eq_true (by omega)
      have hiff := hexs_at i hlt c
      have hrun := hexs_index i hlt
      obtain ⟨d, hd⟩ : ∃ d, d = hexAt i := ⟨_, rfl⟩
      rw [← hd] at hiff hrun
      clear hd
      by_cases hdc : d = c
      · have p2 : (((d.toNat : Nat) : Int) == (c.toNat : Int)) = true := by rw [u8_beq]; exact decide_eq_true hdc
        have HX := Aside0.mk (hiff.1 hdc)
        clear hiff hno hdc hix
        go_wp2_with fail
        go_ret
        exact ⟨by rw [HX.out]; rfl, rfl⟩
      · have p2 : (((d.toNat : Nat) : Int) == (c.toNat : Int)) = false := by rw [u8_beq]; exact decide_eq_false hdc
        have HX : Aside0 (∀ j : Nat, j < i + 1 → hexIx c ≠ (j : Int)) := ⟨fun j hj => by
          by_cases h : j = i
          · subst h; exact fun e => hdc (hiff.2 e)
          · exact hno j (by omega)⟩
        clear hiff hno hdc hix
        go_wp2_with fail
        exact ⟨⟨⟨i + 1, by simp, by omega, HX.out⟩, trivial⟩, by simp [intOf]; omega⟩
    · have p1 : decide ((i : Int) < 16) = false := decide_eq_false (by omega)
      have HX : Aside0 (hexIx c = -1) := ⟨by
        rcases Int.lt_or_le (hexIx c) 0 with h | h
        · omega
        · exact absurd (Int.toNat_of_nonneg h).symm (hno (hexIx c).toNat (by omega))⟩
      clear hno
      go_wp2_with fail
      go_ret
      exact ⟨by rw [HX.out]; rfl, rfl⟩
/-! Decimals. -/
theorem ba_append (a b : List UInt8) : tx a ++ tx b = tx (a ++ b) := by
  apply ByteArray.ext
  rw [ByteArray.data_append]
  simp [tx]
set_option maxRecDepth 100000 in
theorem hexs_cut (n : Nat) (h : n < 10) (w : World) : (Instr.slice 9 (.string { data := #[48, 49, 50, 51, 52, 53, 54, 55, 56, 57, 97, 98, 99, 100, 101, 102] }) (some (.int .i64 (n : Int))) (some (.int .i64 ((n : Int) + 1))) none).run Tryd.prog w = .ok (.string (tx [UInt8.ofNat (48 + n)])) w := by
  have h1 := slice_run (tx hexs) n (n + 1) (by omega) (by rw [tx_size]; show n + 1 ≤ 16; omega) w
  rw [show (((n + 1 : Nat)) : Int) = (n : Int) + 1 by omega] at h1
  refine h1.trans ?_
  rw [tx_data]
  have e : ∀ n : Fin 10, (hexs.take (n.val + 1)).drop n.val = [UInt8.ofNat (48 + n.val)] := by decide
  rw [e ⟨n, h⟩]
theorem add_run (A B : List UInt8) (h : A.length + B.length ≤ 9223372036854775807) (w : World) : (Op.stringOp .add (tx A) (tx B)).run Tryd.prog w = .ok (.string (tx (A ++ B))) w := by
  rw [run_string_add_sum (P := Tryd.prog) w (tx A) (tx B) (by rw [tx_size, tx_size]; exact h), ba_append]
theorem quiet_nat {P : Program} {f : FuncId} {args : Array Value} {w : World} {n : Nat} {v : Value} (h : Calls P f args (w.drewN n) fun e w' => e = .returned v ∧ ∃ m, w' = (w.drewN n).drewN m) : Calls P f args (w.drewN n) fun e w'' => e = .returned v ∧ ∃ m, w'' = w.drewN m := Calls.quiet_of h
set_option maxHeartbeats 4000000 in
set_option maxRecDepth 100000 in
theorem dec_nat : ∀ (k n : Nat), n < k → n < 9223372036854775808 → ∀ w : World, Calls Tryd.prog 25 #[.int .i64 (n : Int)] w fun e w' => e = .returned (.string (tx (Lib.decDigits n))) ∧ ∃ m, w' = w.drewN m
  | 0, n, h, _ => absurd h (by omega)
  | k + 1, n, hk, hn => by
    intro w
    have q0 : ((n : Int) == -9223372036854775808) = false := beq_eq_false_iff_ne.2 (by omega)
    have q1 : decide ((n : Int) < 0) = false := decide_eq_false (by omega)
    by_cases hlt : n < 10
    · have q2 : decide ((n : Int) < 10) = true := decide_eq_true (by omega)
      have hsl := hexs_cut n hlt
      obtain ⟨d, hd⟩ : ∃ d, d = UInt8.ofNat (48 + n) := ⟨_, rfl⟩
      have HV := Aside0.mk (show Lib.decDigits n = [d] by rw [Lib.decDigits, dif_pos hlt, hd])
      rw [← hd] at hsl
      clear hd
      go_enter Tryd.func25, Tryd.ntmps25
      go_wp2_with fail
      go_ret
      exact ⟨by rw [HV.out]; rfl, 0, rfl⟩
    · have q2 : decide ((n : Int) < 10) = false := decide_eq_false (by omega)
      obtain ⟨m, hm⟩ : ∃ m, m = n / 10 := ⟨_, rfl⟩
      obtain ⟨r, hr⟩ : ∃ r, r = n % 10 := ⟨_, rfl⟩
      have hsl := hexs_cut r (by omega)
      obtain ⟨d, hd⟩ : ∃ d, d = UInt8.ofNat (48 + r) := ⟨_, rfl⟩
      have HV := Aside0.mk (show Lib.decDigits n = Lib.decDigits m ++ [d] by rw [Lib.decDigits, dif_neg hlt, hd, hr, hm])
      rw [← hd] at hsl
      have w1 : IntKind.i64.wrap ((n : Int) / 10) = (m : Int) := by rw [show (n : Int) / 10 = (m : Int) by omega]; exact wrap_small _ (by omega) (by omega)
      have w2 : Int.tmod (n : Int) 10 = (r : Int) := by rw [Int.tmod_eq_emod_of_nonneg (by omega)]; omega
      have w3 : IntKind.i64.wrap ((r : Int) + 1) = (r : Int) + 1 := wrap_small _ (by omega) (by omega)
      have ih := Aside0.mk (dec_nat k m (by omega) (by omega))
      have hadd := add_run (Lib.decDigits m) [d] (by have := decDigits_len 19 m (by omega) (by omega); simp; omega)
      clear hd hm hr hk
      go_enter Tryd.func25, Tryd.ntmps25
      go_wp2_with fail
      go_quiet ((go_at_call 25; with_reducible exact quiet_nat (ih.out _)))
      go_wp2_with fail
      go_ret
      exact ⟨by rw [HV.out]; rfl, nq, rfl⟩
theorem least_digits : Lib.decDigits 9223372036854775808 = [57, 50, 50, 51, 51, 55, 50, 48, 51, 54, 56, 53, 52, 55, 55, 53, 56, 48, 56] := number_back (m := 19) (by decide)
theorem itoa_neg (n : Int) (k : Nat) (h : n < 0) (hk : n = -(k : Int)) : Lib.itoa n = 45 :: Lib.decDigits k := by
  unfold Lib.itoa
  rw [if_pos h, show n.natAbs = k by omega]
set_option maxHeartbeats 4000000 in
set_option maxRecDepth 100000 in
theorem dec_any (n : Int) (h0 : -9223372036854775808 ≤ n) (h1 : n ≤ 9223372036854775807) (w : World) : Calls Tryd.prog 25 #[.int .i64 n] w fun e w' => e = .returned (.string (tx (Lib.itoa n))) ∧ ∃ m, w' = w.drewN m := by
  by_cases hp : 0 ≤ n
  · obtain ⟨k, rfl⟩ : ∃ k : Nat, n = (k : Int) := ⟨n.toNat, by omega⟩
    rw [itoa_nat]
    exact dec_nat (k + 1) k (by omega) (by omega) w
  by_cases hl : n = -9223372036854775808
  · have HV := Aside0.mk (show Lib.itoa n = [45, 57, 50, 50, 51, 51, 55, 50, 48, 51, 54, 56, 53, 52, 55, 55, 53, 56, 48, 56] by rw [itoa_neg n 9223372036854775808 (by omega) (by omega), least_digits])
    have q0 : (n == -9223372036854775808) = true := by rw [hl]; rfl
    clear hl
    go_enter Tryd.func25, Tryd.ntmps25
    go_wp2_with fail
    go_ret
    exact ⟨by rw [HV.out]; rfl, 0, rfl⟩
  · obtain ⟨k, hk⟩ : ∃ k : Nat, -n = (k : Int) := ⟨n.natAbs, by omega⟩
    have HV := Aside0.mk (itoa_neg n k (by omega) (by omega))
    have q0 : (n == -9223372036854775808) = false := beq_eq_false_iff_ne.2 hl
    have q1 : decide (n < 0) = true := decide_eq_true (by omega)
    have hadd := add_run [45] (Lib.decDigits k) (by have := decDigits_len 19 k (by omega) (by omega); simp; omega)
    have C := Aside0.mk (dec_nat (k + 1) k (by omega) (by omega))
    go_enter Tryd.func25, Tryd.ntmps25
    go_wp2_with fail
    refine (C.out _).mono ?_
    rintro e w' ⟨rfl, m, rfl⟩
    go_wp2_with fail
    go_ret
    exact ⟨by rw [HV.out]; rfl, m, rfl⟩
end Go.Proofs.YtkjjjgplidompaaDoor.B
