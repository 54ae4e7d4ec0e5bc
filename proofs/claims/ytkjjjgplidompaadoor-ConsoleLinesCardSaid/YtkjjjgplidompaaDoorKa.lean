/-
  Lines and steps: words, numbers, bytes as digits, and the step of a line. Plain laws, no program.
-/
import Derived.Lib.ItoaNum
import Derived.Lib.Join
namespace Go.Proofs.YtkjjjgplidompaaDoor.B
set_option linter.unusedVariables false
set_option linter.unusedSimpArgs false
/-- A line's words: cut at each blank. -/
def wordsL : List UInt8 → List (List UInt8)
  | [] => [[]]
  | c :: r => if c = 32 then [] :: wordsL r else
    match wordsL r with
    | [] => [[c]]
    | x :: t => (c :: x) :: t
/-- The words of what is left, where the first one has begun. -/
def wordsFrom (acc l : List UInt8) : List (List UInt8) :=
  match wordsL l with
  | [] => [acc]
  | x :: t => (acc ++ x) :: t
theorem wordsL_ne (l : List UInt8) : wordsL l ≠ [] := by
  cases l with
  | nil => simp [wordsL]
  | cons c r =>
    unfold wordsL
    split
    · simp
    · split <;> simp
theorem wordsFrom_nil (l : List UInt8) : wordsFrom [] l = wordsL l := by
  unfold wordsFrom
  split
  · rename_i h; exact absurd h (wordsL_ne l)
  · rename_i h; rw [h]; rfl
theorem wordsFrom_end (acc : List UInt8) : wordsFrom acc [] = [acc] := by simp [wordsFrom, wordsL]
theorem wordsFrom_blank (acc r : List UInt8) : wordsFrom acc (32 :: r) = acc :: wordsL r := by
  simp [wordsFrom, wordsL]
theorem wordsFrom_char (acc r : List UInt8) {c : UInt8} (h : c ≠ 32) : wordsFrom acc (c :: r) = wordsFrom (acc ++ [c]) r := by
  unfold wordsFrom
  rw [wordsL, if_neg h]
  cases hw : wordsL r with
  | nil => exact absurd hw (wordsL_ne r)
  | cons x t => simp
theorem wordsFrom_chars (p : List UInt8) : ∀ (acc r : List UInt8), (∀ c ∈ p, c ≠ 32) → wordsFrom acc (p ++ r) = wordsFrom (acc ++ p) r := by
  induction p with
  | nil => intro acc r _; simp
  | cons c p ih =>
    intro acc r h
    rw [List.cons_append, wordsFrom_char _ _ (h c (by simp)), ih _ _ (fun d hd => h d (by simp [hd]))]
    simp
theorem wordsL_cons (p r : List UInt8) (h : ∀ c ∈ p, c ≠ 32) : wordsL (p ++ 32 :: r) = p :: wordsL r := by
  rw [← wordsFrom_nil, wordsFrom_chars p [] _ h, wordsFrom_blank]; simp
theorem wordsL_one (p : List UInt8) (h : ∀ c ∈ p, c ≠ 32) : wordsL p = [p] := by
  have := wordsFrom_chars p [] [] h
  rw [List.append_nil] at this
  rw [← wordsFrom_nil, this, wordsFrom_end]; simp
/-- Words that were cut, joined by blanks, are the line. -/
theorem join_words : ∀ l : List UInt8, Lib.join (wordsL l) [32] = l
  | [] => by simp [wordsL, Lib.join_one]
  | c :: r => by
    have ih := join_words r
    unfold wordsL
    by_cases h : c = 32
    · rw [if_pos h]
      cases hw : wordsL r with
      | nil => exact absurd hw (wordsL_ne r)
      | cons x t =>
        rw [hw, Lib.join_cons] at ih
        rw [Lib.join_cons, Lib.joinTail, List.map_cons, List.flatten_cons]
        rw [Lib.joinTail] at ih
        rw [h]
        simpa using ih
    · rw [if_neg h]
      cases hw : wordsL r with
      | nil => exact absurd hw (wordsL_ne r)
      | cons x t =>
        rw [hw, Lib.join_cons] at ih
        show Lib.join ((c :: x) :: t) [32] = _
        rw [Lib.join_cons, List.cons_append, ih]
/-- No word has a blank. -/
theorem words_clean : ∀ (l : List UInt8), ∀ x ∈ wordsL l, ∀ c ∈ x, c ≠ 32
  | [], x, hx, c, hc => by simp [wordsL] at hx; subst hx; simp at hc
  | d :: r, x, hx, c, hc => by
    have ih := words_clean r
    unfold wordsL at hx
    split at hx
    · rcases List.mem_cons.1 hx with rfl | h
      · simp at hc
      · exact ih x h c hc
    · rename_i hd
      cases hw : wordsL r with
      | nil => exact absurd hw (wordsL_ne r)
      | cons y t =>
        rw [hw] at hx
        rcases List.mem_cons.1 hx with rfl | h
        · rcases List.mem_cons.1 hc with rfl | h2
          · exact hd
          · exact ih y (by rw [hw]; simp) c h2
        · exact ih x (by rw [hw]; simp [h]) c hc
/-! Numbers. -/
def isDig (c : UInt8) : Bool := decide (48 ≤ c.toNat ∧ c.toNat ≤ 57)
def decOf (acc : Nat) : List UInt8 → Nat
  | [] => acc
  | c :: r => decOf (acc * 10 + (c.toNat - 48)) r
/-- A number of so many digits at most. -/
def numberL (l : List UInt8) (most : Nat) : Option Nat :=
  if l = [] ∨ most < l.length ∨ (1 < l.length ∧ l.head? = some 48) ∨ l.all isDig = false then none else some (decOf 0 l)
theorem decOf_append (l m : List UInt8) : ∀ acc, decOf acc (l ++ m) = decOf (decOf acc l) m := by
  induction l with
  | nil => intro acc; rfl
  | cons c l ih => intro acc; exact ih _
theorem decOf_ge (l : List UInt8) : ∀ acc, acc ≤ decOf acc l := by
  induction l with
  | nil => intro acc; exact Nat.le_refl _
  | cons c l ih => intro acc; have := ih (acc * 10 + (c.toNat - 48)); show acc ≤ decOf _ l; omega
theorem decOf_lt (l : List UInt8) : ∀ acc k, acc < 10 ^ k → l.all isDig = true → decOf acc l < 10 ^ (k + l.length) := by
  induction l with
  | nil => intro acc k h _; exact h
  | cons c l ih =>
    intro acc k h hd
    have h1 : isDig c = true := by simp at hd; exact hd.1
    have h2 : l.all isDig = true := by simp at hd ⊢; exact hd.2
    simp only [isDig, decide_eq_true_eq] at h1
    have := ih (acc * 10 + (c.toNat - 48)) (k + 1) (by rw [Nat.pow_succ]; omega) h2
    show decOf _ l < _
    rw [List.length_cons, show k + (l.length + 1) = k + 1 + l.length by omega]
    exact this
theorem numberL_lt {l : List UInt8} {m n : Nat} (h : numberL l m = some n) : n < 10 ^ m := by
  unfold numberL at h
  split at h
  · cases h
  · rename_i g
    simp only [not_or] at g
    injection h with h
    subst h
    have := decOf_lt l 0 0 (by simp) (by simpa using g.2.2.2)
    rw [Nat.zero_add] at this
    exact Nat.lt_of_lt_of_le this (Nat.pow_le_pow_right (by omega) (by omega))
theorem numberL_digits {l : List UInt8} {m n : Nat} (h : numberL l m = some n) : ∀ c ∈ l, isDig c = true := by
  unfold numberL at h
  split at h
  · cases h
  · rename_i g
    simp only [not_or] at g
    have : l.all isDig = true := by simpa using g.2.2.2
    simpa using this
theorem u8_48 (c : UInt8) (h : isDig c = true) : UInt8.ofNat (48 + (c.toNat - 48)) = c := by
  simp only [isDig, decide_eq_true_eq] at h
  rw [show 48 + (c.toNat - 48) = c.toNat by omega]
  exact UInt8.ofNat_toNat
/-- The digits of the number that digits tell, the first of which is no nought, are those digits. -/
theorem dec_back : ∀ (k : Nat) (l : List UInt8), l.length = k → l ≠ [] → l.all isDig = true → (1 < l.length → l.head? ≠ some 48) → Lib.decDigits (decOf 0 l) = l
  | 0, l, hk, hne, _, _ => absurd (List.eq_nil_of_length_eq_zero hk) hne
  | k + 1, l, hk, hne, hd, hh => by
    obtain ⟨b, c, rfl⟩ : ∃ b c, l = b ++ [c] := ⟨l.dropLast, l.getLast hne, (List.dropLast_concat_getLast hne).symm⟩
    have hc : isDig c = true := by simp at hd; exact hd.2
    have hb : b.all isDig = true := by simp at hd ⊢; exact hd.1
    have hcd := hc
    simp only [isDig, decide_eq_true_eq] at hcd
    rw [decOf_append]
    show Lib.decDigits (decOf 0 b * 10 + (c.toNat - 48)) = _
    cases hbb : b with
    | nil =>
      show Lib.decDigits (0 * 10 + (c.toNat - 48)) = _
      rw [Lib.decDigits, dif_pos (by omega), Nat.zero_mul, Nat.zero_add, u8_48 c hc]; rfl
    | cons d t =>
      have hlen : 1 < (b ++ [c]).length := by rw [hbb]; simp
      have hd48 : d ≠ 48 := by
        have := hh hlen
        rw [hbb] at this
        simpa using this
      have hdd : isDig d = true := by rw [hbb] at hb; simp at hb; exact hb.1
      have hpos : 1 ≤ decOf 0 b := by
        rw [hbb]
        refine Nat.le_trans ?_ (decOf_ge t _)
        simp only [isDig, decide_eq_true_eq] at hdd
        have : d.toNat ≠ 48 := fun e => hd48 (UInt8.toNat_inj.1 e)
        omega
      have ih := dec_back k b (by simp at hk; exact hk) (by rw [hbb]; simp) hb (fun _ => by rw [hbb]; simpa using hd48)
      rw [← hbb, Lib.decDigits, dif_neg (by omega), show (decOf 0 b * 10 + (c.toNat - 48)) / 10 = decOf 0 b by omega, show (decOf 0 b * 10 + (c.toNat - 48)) % 10 = c.toNat - 48 by omega, ih, u8_48 c hc]
theorem number_back {l : List UInt8} {m n : Nat} (h : numberL l m = some n) : Lib.decDigits n = l := by
  unfold numberL at h
  split at h
  · cases h
  · rename_i g
    simp only [not_or] at g
    injection h with h
    subst h
    refine dec_back _ l rfl g.1 (by simpa using g.2.2.2) (fun h1 h2 => g.2.2.1 ⟨h1, h2⟩)
/-- A number's digits. -/
theorem decDigits_dig : ∀ (k u : Nat), u < k → (Lib.decDigits u).all isDig = true
  | 0, u, h => absurd h (by omega)
  | k + 1, u, h => by
    rw [Lib.decDigits]
    have hd : ∀ v, v < 10 → isDig (UInt8.ofNat (48 + v)) = true := by
      intro v hv
      simp only [isDig, decide_eq_true_eq, UInt8.toNat_ofNat']
      omega
    split
    · rename_i hu
      rw [List.all_cons, hd u hu]; rfl
    · rename_i hu
      have ih := decDigits_dig k (u / 10) (by omega)
      rw [List.all_append, ih]
      rw [List.all_cons, hd (u % 10) (by omega)]; rfl
theorem decDigits_ne (u : Nat) : Lib.decDigits u ≠ [] := by
  rw [Lib.decDigits]; split <;> simp
theorem decDigits_head : ∀ (k u : Nat), u < k → u ≠ 0 → (Lib.decDigits u).head? ≠ some 48
  | 0, u, h, _ => absurd h (by omega)
  | k + 1, u, h, h0 => by
    rw [Lib.decDigits]
    split
    · rename_i hu
      intro e
      simp only [List.head?_cons, Option.some.injEq] at e
      have := congrArg UInt8.toNat e
      rw [UInt8.toNat_ofNat'] at this
      have h48 : (48 : UInt8).toNat = 48 := rfl
      omega
    · rename_i hu
      have ih := decDigits_head k (u / 10) (by omega) (by omega)
      cases hw : Lib.decDigits (u / 10) with
      | nil => exact absurd hw (decDigits_ne _)
      | cons x t => rw [hw] at ih; simpa using ih
theorem decDigits_len : ∀ (m u : Nat), 0 < m → u < 10 ^ m → (Lib.decDigits u).length ≤ m
  | 0, u, h, _ => absurd h (by omega)
  | m + 1, u, _, h => by
    rw [Lib.decDigits]
    split
    · simp
    · rename_i hu
      have hm : 0 < m := by
        rcases Nat.eq_zero_or_pos m with rfl | h1
        · simp at h; omega
        · exact h1
      have ih := decDigits_len m (u / 10) hm (by rw [Nat.pow_succ] at h; omega)
      simp; exact ih
theorem decDigits_zero : Lib.decDigits 0 = [48] := by rw [Lib.decDigits, dif_pos (by omega)]; rfl
theorem decOf_digits : ∀ (k u : Nat), u < k → decOf 0 (Lib.decDigits u) = u
  | 0, u, h => absurd h (by omega)
  | k + 1, u, h => by
    rw [Lib.decDigits]
    have hd : ∀ v, v < 10 → (UInt8.ofNat (48 + v)).toNat - 48 = v := by
      intro v hv
      rw [UInt8.toNat_ofNat']; omega
    split
    · rename_i hu
      show 0 * 10 + ((UInt8.ofNat (48 + u)).toNat - 48) = u
      rw [hd u hu]; omega
    · rename_i hu
      rw [decOf_append, decOf_digits k (u / 10) (by omega)]
      show u / 10 * 10 + ((UInt8.ofNat (48 + u % 10)).toNat - 48) = u
      rw [hd _ (by omega)]; omega
theorem number_digits (m u : Nat) (hm : 0 < m) (h : u < 10 ^ m) : numberL (Lib.decDigits u) m = some u := by
  unfold numberL
  rw [if_neg, decOf_digits (u + 1) u (by omega)]
  intro hh
  rcases hh with h1 | h1 | h1 | h1
  · exact decDigits_ne u h1
  · have := decDigits_len m u hm h; omega
  · by_cases h0 : u = 0
    · subst h0
      rw [decDigits_zero] at h1
      simp at h1
    · exact decDigits_head (u + 1) u (by omega) h0 h1.2
  · rw [decDigits_dig (u + 1) u (by omega)] at h1; cases h1
/-! Bytes as digits. -/
def hexVal (c : UInt8) : Option Nat :=
  if 48 ≤ c.toNat ∧ c.toNat ≤ 57 then some (c.toNat - 48) else if 97 ≤ c.toNat ∧ c.toNat ≤ 102 then some (c.toNat - 87) else none
def hexDig (n : Nat) : UInt8 := if n < 10 then UInt8.ofNat (48 + n) else UInt8.ofNat (87 + n)
def hexP : List UInt8 → List UInt8
  | [] => []
  | b :: r => hexDig (b.toNat / 16) :: hexDig (b.toNat % 16) :: hexP r
def hexL (l : List UInt8) : List UInt8 := if l = [] then [45] else hexP l
def unhexP : List UInt8 → Option (List UInt8)
  | [] => some []
  | [_] => none
  | a :: b :: r =>
    match hexVal a, hexVal b, unhexP r with
    | some x, some y, some t => some (UInt8.ofNat (16 * x + y) :: t)
    | _, _, _ => none
def unhexL (d : List UInt8) : Option (List UInt8) := if d = [45] then some [] else if d = [] then none else unhexP d
theorem hexVal_lt {c : UInt8} {n : Nat} (h : hexVal c = some n) : n < 16 := by
  unfold hexVal at h
  repeat' split at h
  all_goals (try cases h)
  all_goals omega
theorem hexDig_val {c : UInt8} {n : Nat} (h : hexVal c = some n) : hexDig n = c := by
  unfold hexVal at h
  unfold hexDig
  split at h
  · injection h with h
    rw [if_pos (by omega), show 48 + n = c.toNat by omega]
    exact UInt8.ofNat_toNat
  · split at h
    · injection h with h
      rw [if_neg (by omega), show 87 + n = c.toNat by omega]
      exact UInt8.ofNat_toNat
    · cases h
theorem hexVal_dig (n : Nat) (h : n < 16) : hexVal (hexDig n) = some n := by
  unfold hexDig hexVal
  split
  · rw [UInt8.toNat_ofNat', if_pos (by omega)]; congr 1; omega
  · rw [UInt8.toNat_ofNat', if_neg (by omega), if_pos (by omega)]; congr 1; omega
theorem hexP_back : ∀ (d b : List UInt8), unhexP d = some b → hexP b = d
  | [], b, h => by simp [unhexP] at h; subst h; rfl
  | [_], b, h => by simp [unhexP] at h
  | x :: y :: r, b, h => by
    unfold unhexP at h
    cases hx : hexVal x with
    | none => simp [hx] at h
    | some m =>
      cases hy : hexVal y with
      | none => simp [hx, hy] at h
      | some n =>
        cases hr : unhexP r with
        | none => simp [hx, hy, hr] at h
        | some t =>
          rw [hx, hy, hr] at h
          have h' := Option.some.inj h
          subst h'
          have hm := hexVal_lt hx
          have hn := hexVal_lt hy
          have e : (UInt8.ofNat (16 * m + n)).toNat = 16 * m + n := by rw [UInt8.toNat_ofNat']; omega
          rw [hexP, e, show (16 * m + n) / 16 = m by omega, show (16 * m + n) % 16 = n by omega, hexDig_val hx, hexDig_val hy, hexP_back r t hr]
theorem unhexP_hexP : ∀ b : List UInt8, unhexP (hexP b) = some b
  | [] => rfl
  | c :: r => by
    have hc := c.toNat_lt
    rw [hexP, unhexP, hexVal_dig _ (by omega), hexVal_dig _ (by omega), unhexP_hexP r]
    show some (UInt8.ofNat (16 * (c.toNat / 16) + c.toNat % 16) :: r) = _
    rw [show 16 * (c.toNat / 16) + c.toNat % 16 = c.toNat by omega, UInt8.ofNat_toNat]
theorem hex_back {d b : List UInt8} (h : unhexL d = some b) : hexL b = d := by
  unfold unhexL at h
  split at h
  · injection h with h
    subst h
    rename_i e
    rw [e]; rfl
  · split at h
    · cases h
    · rename_i h1 h2
      have := hexP_back d b h
      unfold hexL
      rw [if_neg, this]
      intro e
      subst e
      exact h2 this.symm
theorem hexL_hex (b : List UInt8) : unhexL (hexL b) = some b := by
  unfold hexL
  by_cases h : b = []
  · rw [if_pos h, h]; rfl
  · rw [if_neg h]
    cases b with
    | nil => exact absurd rfl h
    | cons c r =>
      unfold unhexL
      rw [if_neg (by simp [hexP]), if_neg (by simp [hexP]), unhexP_hexP]
theorem hexDig_ne (n : Nat) (h : n < 16) : hexDig n ≠ 32 := by
  intro e
  have h2 := hexVal_dig n h
  rw [e] at h2
  have h3 : hexVal 32 = none := by decide
  rw [h3] at h2
  cases h2
theorem hexP_clean : ∀ b : List UInt8, ∀ c ∈ hexP b, c ≠ 32
  | [], c, h => by simp [hexP] at h
  | x :: r, c, h => by
    have hx := x.toNat_lt
    rw [hexP] at h
    rcases List.mem_cons.1 h with rfl | h
    · exact hexDig_ne _ (by omega)
    rcases List.mem_cons.1 h with rfl | h
    · exact hexDig_ne _ (by omega)
    · exact hexP_clean r c h
/-! Steps. -/
/-- A step: its kind, when, its packet's four numbers, its bytes. -/
structure LStep where
  kind : Int
  at_ : Int
  id : Int
  stream : Int
  cls : Int
  size : Int
  data : List UInt8
/-- The step of a line's words. -/
def stepW (k : List UInt8) (t : Nat) (r : List (List UInt8)) : Option LStep :=
  if k = [116] then (match r with | [] => some ⟨2, t, 0, 0, 0, 0, []⟩ | _ => none)
  else if k = [102] then (match r with | [d] => (unhexL d).map fun b => ⟨3, t, 0, 0, 0, 0, b⟩ | _ => none)
  else if k = [101] then
    (match r with
    | [p, q, u, v] =>
      match numberL p 9, numberL q 9, numberL u 9, numberL v 9 with
      | some a, some b, some c, some d => some ⟨1, t, a, b, c, d, []⟩
      | _, _, _, _ => none
    | _ => none)
  else none
def parseW : List (List UInt8) → Option LStep
  | k :: a :: r => (numberL a 18).bind fun t => stepW k t r
  | _ => none
/-- A line's step. -/
def parseL (l : List UInt8) : Option LStep := parseW (wordsL l)
/-- A step's words. -/
def rawW (s : LStep) : List (List UInt8) :=
  if s.kind = 2 then [[116], Lib.itoa s.at_]
  else if s.kind = 3 then [[102], Lib.itoa s.at_, hexL s.data]
  else if s.kind = 1 then [[101], Lib.itoa s.at_, Lib.itoa s.id, Lib.itoa s.stream, Lib.itoa s.cls, Lib.itoa s.size]
  else [[], Lib.itoa s.at_]
def rawL (s : LStep) : List UInt8 := Lib.join (rawW s) [32]
open Classical in
/-- A step's line, where it has one. -/
noncomputable def lineL (s : LStep) : Option (List UInt8) := if parseL (rawL s) = some s then some (rawL s) else none
theorem line_parse {s : LStep} {l : List UInt8} (h : lineL s = some l) : parseL l = some s := by
  unfold lineL at h
  split at h
  · injection h with h
    subst h
    assumption
  · cases h
theorem itoa_nat (n : Nat) : Lib.itoa (n : Int) = Lib.decDigits n := by
  unfold Lib.itoa
  rw [if_neg (by omega)]; rfl
/-- A line that was read is written as it was. -/
theorem parse_raw {s : LStep} {l : List UInt8} (h : parseL l = some s) : rawL s = l := by
  have hj := join_words l
  unfold parseL at h
  unfold rawL
  rw [← hj]
  congr 1
  generalize wordsL l = W at h
  unfold parseW at h
  split at h
  · rename_i k a r
    obtain ⟨t, ht, h⟩ := Option.bind_eq_some_iff.1 h
    have ha := number_back ht
    unfold stepW at h
    split at h
    · rename_i hk
      split at h
      · injection h with h
        subst h
        simp [rawW, itoa_nat, ha, hk]
      · cases h
    · split at h
      · rename_i hk
        split at h
        · rename_i d
          obtain ⟨b, hb, h⟩ := Option.map_eq_some_iff.1 h
          subst h
          simp [rawW, itoa_nat, ha, hk, hex_back hb]
        · cases h
      · split at h
        · rename_i hk
          split at h
          · rename_i p q u v
            split at h
            · rename_i a1 b1 c1 d1 e1 e2 e3 e4
              injection h with h
              subst h
              simp [rawW, itoa_nat, ha, hk, number_back e1, number_back e2, number_back e3, number_back e4]
            · cases h
          · cases h
        · cases h
  · cases h
theorem parse_line {s : LStep} {l : List UInt8} (h : parseL l = some s) : lineL s = some l := by
  have hr := parse_raw h
  unfold lineL
  rw [hr, if_pos h]
/-- What has no kind has no line. -/
theorem line_kind {s : LStep} (h1 : s.kind ≠ 1) (h2 : s.kind ≠ 2) (h3 : s.kind ≠ 3) : lineL s = none := by
  unfold lineL
  rw [if_neg]
  intro h
  have : s.kind = 1 ∨ s.kind = 2 ∨ s.kind = 3 := by
    unfold parseL at h
    generalize wordsL (rawL s) = W at h
    unfold parseW at h
    split at h
    · obtain ⟨t, ht, h⟩ := Option.bind_eq_some_iff.1 h
      unfold stepW at h
      repeat' split at h
      all_goals first
        | (cases h; done)
        | (injection h with h; subst h; simp; done)
        | (obtain ⟨b, hb, h⟩ := Option.map_eq_some_iff.1 h; subst h; simp)
    · cases h
  omega
/-! Lines that are spoilt. -/
theorem dig_clean {n : List UInt8} (h : n.all isDig = true) : ∀ c ∈ n, c ≠ 32 := by
  intro c hc e
  subst e
  have := List.all_eq_true.1 h 32 hc
  exact absurd this (by decide)
theorem tick_line (u : Nat) (h : u < 10 ^ 18) : parseL ([116, 32] ++ Lib.decDigits u) = some ⟨2, u, 0, 0, 0, 0, []⟩ := by
  have hc := dig_clean (decDigits_dig (u + 1) u (by omega))
  unfold parseL
  rw [show [116, 32] ++ Lib.decDigits u = [116] ++ 32 :: Lib.decDigits u by rfl, wordsL_cons [116] _ (by simp), wordsL_one _ hc]
  show (numberL (Lib.decDigits u) 18).bind _ = _
  rw [number_digits 18 u (by omega) h]
  rfl
/-- The lines of the statement's list, of the number's digits n. -/
def badL (n : List UInt8) (k : Nat) : List UInt8 :=
  if k = 0 then [116, 32, 32] ++ n else if k = 1 then [32] ++ ([116, 32] ++ n) else if k = 2 then [116, 32] ++ n ++ [32] else if k = 3 then [116, 32, 48] ++ n else if k = 4 then [116, 32, 43] ++ n
  else if k = 5 then [116, 32, 45] ++ n else if k = 6 then [84, 32] ++ n else if k = 7 then [116] ++ n else if k = 8 then [116, 32] ++ n ++ [32, 49]
  else if k = 9 then [116, 32, 49] ++ n ++ [48, 48, 48, 48, 48, 48, 48, 48, 48, 48, 48, 48, 48, 48, 48, 48, 48, 48] else [116, 32, 48, 120] ++ n
theorem number_bad {l : List UInt8} {m : Nat} (h : m < l.length ∨ (1 < l.length ∧ l.head? = some 48) ∨ l.all isDig = false) : numberL l m = none := by
  unfold numberL
  rw [if_pos (Or.inr h)]
theorem parseW_three (k : List UInt8) (a b : List UInt8) (hk : k ≠ [102]) : parseW [k, a, b] = none := by
  show (numberL a 18).bind _ = none
  cases numberL a 18 with
  | none => rfl
  | some t =>
    show stepW k t [b] = none
    unfold stepW
    rw [if_neg hk]
    split
    · rfl
    · split <;> rfl
theorem parseW_num (k a : List UInt8) (r : List (List UInt8)) (h : numberL a 18 = none) : parseW (k :: a :: r) = none := by
  show (numberL a 18).bind _ = none
  rw [h]; rfl
theorem bad_none (n : List UInt8) (hn : n.all isDig = true) (h0 : n ≠ []) (k : Nat) : parseL (badL n k) = none := by
  have hc := dig_clean hn
  obtain ⟨d, t, hdt⟩ : ∃ d t, n = d :: t := by cases n with | nil => exact absurd rfl h0 | cons d t => exact ⟨d, t, rfl⟩
  have hlen : 1 ≤ n.length := by rw [hdt]; simp
  have hpre : ∀ p : List UInt8, (∀ c ∈ p, c ≠ 32) → ∀ c ∈ p ++ n, c ≠ 32 := by
    intro p hp c h
    rcases List.mem_append.1 h with h | h
    · exact hp c h
    · exact hc c h
  unfold parseL badL
  split
  · rw [show [116, 32, 32] ++ n = [116] ++ 32 :: ([] ++ 32 :: n) by rfl, wordsL_cons [116] _ (by simp), wordsL_cons [] _ (by simp), wordsL_one n hc]
    exact parseW_three _ _ _ (by decide)
  split
  · rw [show [32] ++ ([116, 32] ++ n) = [] ++ 32 :: ([116] ++ 32 :: n) by rfl, wordsL_cons [] _ (by simp), wordsL_cons [116] _ (by simp), wordsL_one n hc]
    exact parseW_three _ _ _ (by decide)
  split
  · rw [show [116, 32] ++ n ++ [32] = [116] ++ 32 :: (n ++ 32 :: []) by simp, wordsL_cons [116] _ (by simp), wordsL_cons n _ hc]
    exact parseW_three _ _ _ (by decide)
  split
  · rw [show [116, 32, 48] ++ n = [116] ++ 32 :: ([48] ++ n) by rfl, wordsL_cons [116] _ (by simp), wordsL_one _ (hpre [48] (by simp))]
    exact parseW_num _ _ _ (number_bad (.inr (.inl ⟨by simp only [List.length_append, List.length_cons, List.length_nil]; omega, rfl⟩)))
  split
  · rw [show [116, 32, 43] ++ n = [116] ++ 32 :: ([43] ++ n) by rfl, wordsL_cons [116] _ (by simp), wordsL_one _ (hpre [43] (by simp))]
    exact parseW_num _ _ _ (number_bad (.inr (.inr (by simp [isDig]))))
  split
  · rw [show [116, 32, 45] ++ n = [116] ++ 32 :: ([45] ++ n) by rfl, wordsL_cons [116] _ (by simp), wordsL_one _ (hpre [45] (by simp))]
    exact parseW_num _ _ _ (number_bad (.inr (.inr (by simp [isDig]))))
  split
  · rw [show [84, 32] ++ n = [84] ++ 32 :: n by rfl, wordsL_cons [84] _ (by simp), wordsL_one n hc]
    show (numberL n 18).bind _ = none
    cases numberL n 18 <;> rfl
  split
  · rw [wordsL_one _ (hpre [116] (by simp))]; rfl
  split
  · rw [show [116, 32] ++ n ++ [32, 49] = [116] ++ 32 :: (n ++ 32 :: [49]) by simp, wordsL_cons [116] _ (by simp), wordsL_cons n _ hc, wordsL_one [49] (by simp)]
    exact parseW_three _ _ _ (by decide)
  split
  · have hz : ∀ c ∈ [49] ++ n ++ [48, 48, 48, 48, 48, 48, 48, 48, 48, 48, 48, 48, 48, 48, 48, 48, 48, 48], c ≠ (32 : UInt8) := by
      intro c h
      rcases List.mem_append.1 h with h | h
      · exact hpre [49] (by simp) c h
      · intro e; subst e; revert h; decide
    rw [show [116, 32, 49] ++ n ++ [48, 48, 48, 48, 48, 48, 48, 48, 48, 48, 48, 48, 48, 48, 48, 48, 48, 48] = [116] ++ 32 :: ([49] ++ n ++ [48, 48, 48, 48, 48, 48, 48, 48, 48, 48, 48, 48, 48, 48, 48, 48, 48, 48]) by rfl, wordsL_cons [116] _ (by simp), wordsL_one _ hz]
    exact parseW_num _ _ _ (number_bad (.inl (by simp)))
  · rw [show [116, 32, 48, 120] ++ n = [116] ++ 32 :: ([48, 120] ++ n) by rfl, wordsL_cons [116] _ (by simp), wordsL_one _ (hpre [48, 120] (by simp))]
    exact parseW_num _ _ _ (number_bad (.inr (.inl ⟨by simp only [List.length_append, List.length_cons, List.length_nil]; omega, rfl⟩)))
end Go.Proofs.YtkjjjgplidompaaDoor.B
