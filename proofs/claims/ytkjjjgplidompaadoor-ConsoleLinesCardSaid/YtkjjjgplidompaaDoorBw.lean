/-
  Bits one behind the other, as plain lists: what a writer of bits holds and what a reader of bits reads. No program here.
-/
import Derived.Test.YtkjjjgplidompaaDoorWWords
namespace Go.Proofs.YtkjjjgplidompaaDoor.B
open Go.RowKit Go.Proofs.YtkjjjgplidompaaDoorW.PrintWords

theorem snoc_ind {α : Type} {p : List α → Prop} (h0 : p []) (h1 : ∀ l b, p l → p (l ++ [b])) (l : List α) : p l := by
  have key : ∀ n (l : List α), l.length = n → p l := by
    intro n
    induction n with
    | zero => intro l h; rw [List.eq_nil_of_length_eq_zero h]; exact h0
    | succ n ih =>
      intro l h
      have hne : l ≠ [] := by rintro rfl; simp at h
      rw [← List.dropLast_concat_getLast hne]
      exact h1 _ _ (ih _ (by rw [List.length_dropLast]; omega))
  exact key _ l rfl
/-- The lower n bits of v, the highest first. -/
def toBits : Nat → Nat → List Bool
  | 0, _ => []
  | n + 1, v => v.testBit n :: toBits n v
theorem toBits_length (n v : Nat) : (toBits n v).length = n := by
  induction n with
  | zero => rfl
  | succ n ih => simp [toBits, ih]
theorem toBits_mod (n v : Nat) : toBits n (v % 2 ^ n) = toBits n v := by
  have key : ∀ m k v, m ≤ k → toBits m (v % 2 ^ k) = toBits m v := by
    intro m
    induction m with
    | zero => intros; rfl
    | succ m ih => intro k v h; simp only [toBits]; rw [ih k v (by omega), Nat.testBit_mod_two_pow]; simp; intro; omega
  exact key n n v (Nat.le_refl _)
/-- The number that bits tell, the highest first. -/
def valOf (l : List Bool) : Nat := l.foldl (fun a b => 2 * a + b.toNat) 0
theorem valOf_snoc (l : List Bool) (b : Bool) : valOf (l ++ [b]) = 2 * valOf l + b.toNat := by simp [valOf, List.foldl_append]
theorem foldl_val (l : List Bool) (a : Nat) : l.foldl (fun a b => 2 * a + b.toNat) a = a * 2 ^ l.length + valOf l := by
  induction l generalizing a with
  | nil => simp [valOf]
  | cons b l ih =>
    simp only [List.foldl_cons, List.length_cons, valOf]
    rw [ih, ih (2 * 0 + b.toNat), Nat.pow_succ, Nat.add_mul]
    have e1 : 2 * a * 2 ^ l.length = a * (2 ^ l.length * 2) := by rw [Nat.mul_comm 2 a, Nat.mul_assoc, Nat.mul_comm 2]
    have e2 : (2 * 0 + b.toNat) * 2 ^ l.length = b.toNat * 2 ^ l.length := by rw [Nat.mul_zero, Nat.zero_add]
    omega
theorem valOf_append (l m : List Bool) : valOf (l ++ m) = valOf l * 2 ^ m.length + valOf m := by
  show (l ++ m).foldl _ 0 = _
  rw [List.foldl_append, foldl_val]; rfl
theorem valOf_lt (l : List Bool) : valOf l < 2 ^ l.length := by
  refine snoc_ind (p := fun l => valOf l < 2 ^ l.length) (by simp [valOf]) (fun l b ih => ?_) l
  · rw [valOf_snoc, List.length_append, List.length_singleton, Nat.pow_succ]; have : b.toNat ≤ 1 := Bool.toNat_le b; omega
theorem toBits_snoc (n v : Nat) : toBits (n + 1) v = toBits n (v / 2) ++ [v.testBit 0] := by
  induction n generalizing v with
  | zero => simp [toBits]
  | succ n ih =>
    rw [toBits, ih, toBits, List.cons_append, Nat.testBit_succ]
theorem testBit0_toNat (v : Nat) : (v.testBit 0).toNat = v % 2 := by
  rw [Nat.testBit_zero]; rcases Nat.mod_two_eq_zero_or_one v with h | h <;> simp [h]
theorem valOf_toBits (n v : Nat) : valOf (toBits n v) = v % 2 ^ n := by
  induction n generalizing v with
  | zero => simp [toBits, valOf, Nat.mod_one]
  | succ n ih =>
    rw [toBits_snoc, valOf_snoc, ih, testBit0_toNat, Nat.pow_succ]
    have := Nat.mod_mul_right_div_self v 2 (2 ^ n)
    have h2 : v % (2 ^ n * 2) = 2 * (v / 2 % 2 ^ n) + v % 2 := by
      rw [Nat.mul_comm (2 ^ n) 2, Nat.mod_mul, Nat.add_comm]
    omega
theorem toBits_valOf (l : List Bool) : toBits l.length (valOf l) = l := by
  refine snoc_ind (p := fun l => toBits l.length (valOf l) = l) rfl (fun l b ih => ?_) l
  · rw [List.length_append, List.length_singleton, toBits_snoc, valOf_snoc]
    have h1 : (2 * valOf l + b.toNat) / 2 = valOf l := by have : b.toNat ≤ 1 := Bool.toNat_le b; omega
    have h2 : (2 * valOf l + b.toNat).testBit 0 = b := by
      rw [Nat.testBit_zero]; cases b <;> simp <;> omega
    rw [h1, h2, ih]
theorem toBits_add (a b x y : Nat) (hy : y < 2 ^ b) : toBits a x ++ toBits b y = toBits (a + b) (x * 2 ^ b + y) := by
  have h := toBits_valOf (toBits a x ++ toBits b y)
  rw [List.length_append, toBits_length, toBits_length, valOf_append, valOf_toBits, valOf_toBits, toBits_length, Nat.mod_eq_of_lt hy] at h
  rw [← h, ← toBits_mod (a + b) (x * 2 ^ b + y)]
  congr 1
  rw [Nat.pow_add, Nat.mul_comm (2 ^ a) (2 ^ b), Nat.add_comm (x * 2 ^ b) y, Nat.mul_comm x, Nat.mod_mul, Nat.add_mul_mod_self_left, Nat.mod_eq_of_lt hy, Nat.add_mul_div_left _ _ (Nat.two_pow_pos b), Nat.div_eq_of_lt hy]
  rw [Nat.zero_add, Nat.mul_comm, Nat.add_comm]

/-- Byte j of what bits are packed to: the highest of each byte first, zeros behind the last. -/
def byteAt (l : List Bool) (j : Nat) : Nat := valOf ((List.range 8).map fun i => l.getD (8 * j + i) false)
theorem byteAt_lt (l : List Bool) (j : Nat) : byteAt l j < 256 := by have := valOf_lt ((List.range 8).map fun i => l.getD (8 * j + i) false); simpa [byteAt] using this
/-- Bits as bytes. -/
def pack (l : List Bool) : List Nat := (List.range ((l.length + 7) / 8)).map (byteAt l)
theorem pack_length (l : List Bool) : (pack l).length = (l.length + 7) / 8 := by simp [pack]
def packI (l : List Bool) : List Int := (pack l).map fun x : Nat => (x : Int)
theorem packI_length (l : List Bool) : (packI l).length = (l.length + 7) / 8 := by simp [packI, pack]
theorem pack_nil : pack [] = [] := rfl
theorem packI_nil : packI [] = [] := rfl
theorem getD_snoc (l : List Bool) (b : Bool) (i : Nat) : (l ++ [b]).getD i false = if i = l.length then b else l.getD i false := by
  rw [List.getD_eq_getElem?_getD, List.getD_eq_getElem?_getD, List.getElem?_append]
  split
  · rw [if_neg (by omega)]
  · split
    · subst_vars; simp
    · rw [List.getElem?_eq_none (by simp; omega), List.getElem?_eq_none (by omega)]
theorem byteAt_other (l : List Bool) (b : Bool) (j : Nat) (h : j ≠ l.length / 8) : byteAt (l ++ [b]) j = byteAt l j := by
  unfold byteAt
  congr 1
  apply List.map_congr_left
  intro i hi
  rw [getD_snoc, if_neg (by have := List.mem_range.1 hi; omega)]
theorem byteAt_zero (l : List Bool) (j : Nat) (h : l.length ≤ 8 * j) : byteAt l j = 0 := by
  have : (List.range 8).map (fun i => l.getD (8 * j + i) false) = List.replicate 8 false := by
    rw [List.eq_replicate_iff]
    refine ⟨by simp, fun b hb => ?_⟩
    obtain ⟨i, _, rfl⟩ := List.mem_map.1 hb
    rw [List.getD_eq_getElem?_getD, List.getElem?_eq_none (by omega)]; rfl
  rw [byteAt, this]; rfl
theorem set_bits (f : Nat → Bool) (r : Nat) (hr : r < 8) (hf : ∀ i, r ≤ i → f i = false) (b : Bool) :
    valOf ((List.range 8).map fun i => if i = r then b else f i) = valOf ((List.range 8).map f) ||| (b.toNat * 2 ^ (7 - r)) := by
  have h8 : List.range 8 = [0, 1, 2, 3, 4, 5, 6, 7] := rfl
  rw [h8]
  have c : r = 0 ∨ r = 1 ∨ r = 2 ∨ r = 3 ∨ r = 4 ∨ r = 5 ∨ r = 6 ∨ r = 7 := by omega
  rcases c with rfl | rfl | rfl | rfl | rfl | rfl | rfl | rfl <;> simp only [List.map_cons, List.map_nil] <;>
    (simp (disch := omega) only [hf]; generalize f 0 = f0; generalize f 1 = f1; generalize f 2 = f2; generalize f 3 = f3; generalize f 4 = f4; generalize f 5 = f5; generalize f 6 = f6; clear hf; simp only [reduceIte, Nat.reduceEqDiff, Nat.reduceSub, Nat.reducePow, Nat.succ_ne_self, Nat.zero_ne_one]; cases b <;> first | (cases f0 <;> cases f1 <;> cases f2 <;> cases f3 <;> cases f4 <;> cases f5 <;> cases f6 <;> rfl))
theorem byteAt_snoc (l : List Bool) (b : Bool) : byteAt (l ++ [b]) (l.length / 8) = byteAt l (l.length / 8) ||| (b.toNat * 2 ^ (7 - l.length % 8)) := by
  unfold byteAt
  rw [← set_bits (fun i => l.getD (8 * (l.length / 8) + i) false) (l.length % 8) (by omega) (fun i hi => by rw [List.getD_eq_getElem?_getD, List.getElem?_eq_none (by omega)]; rfl) b]
  congr 1
  apply List.map_congr_left
  intro i hi
  rw [getD_snoc]
  by_cases h : i = l.length % 8
  · rw [if_pos h, if_pos (by omega)]
  · rw [if_neg h, if_neg (by omega)]
theorem pack_snoc_new (l : List Bool) (b : Bool) (h : l.length % 8 = 0) : pack (l ++ [b]) = (pack l ++ [0]).set (l.length / 8) (byteAt l (l.length / 8) ||| (b.toNat * 2 ^ (7 - l.length % 8))) := by
  rw [← byteAt_snoc]
  apply List.ext_getElem
  · simp [pack]; omega
  · intro i h1 h2
    simp only [pack, List.length_map, List.length_range, List.length_append, List.length_cons, List.length_nil] at h1
    simp only [pack, List.getElem_map, List.getElem_range, List.getElem_set]
    by_cases e : l.length / 8 = i
    · subst e; simp
    · rw [if_neg e, byteAt_other l b i (fun h' => e h'.symm), List.getElem_append_left (by simp; omega)]
      simp
theorem pack_snoc_old (l : List Bool) (b : Bool) (h : ¬ l.length % 8 = 0) : pack (l ++ [b]) = (pack l).set (l.length / 8) (byteAt l (l.length / 8) ||| (b.toNat * 2 ^ (7 - l.length % 8))) := by
  rw [← byteAt_snoc]
  apply List.ext_getElem
  · simp [pack]; omega
  · intro i h1 h2
    simp only [pack, List.length_map, List.length_range, List.length_append, List.length_cons, List.length_nil] at h1
    simp only [pack, List.getElem_map, List.getElem_range, List.getElem_set]
    by_cases e : l.length / 8 = i
    · subst e; simp
    · rw [if_neg e, byteAt_other l b i (fun h' => e h'.symm)]
theorem rd_packI (l : List Bool) (j : Nat) (h : j < (l.length + 7) / 8) : rd (packI l) (j : Int) = byteAt l j := by
  simp only [rd, packI, pack, Int.toNat_natCast, List.getD_eq_getElem?_getD]
  rw [List.getElem?_eq_getElem (by simpa using h)]
  simp

/-- Bit i of a text, the highest of each byte first. -/
def byteN (s : ByteArray) (j : Nat) : Nat := (bt s (j : Int)).toNat
theorem byteN_lt (s : ByteArray) (j : Nat) : byteN s j < 256 := by have := bt_range s (j : Int); unfold byteN; omega
theorem byteN_bt (s : ByteArray) (j : Nat) : bt s (j : Int) = (byteN s j : Int) := by have := bt_range s (j : Int); unfold byteN; omega
def bitN (s : ByteArray) (i : Nat) : Bool := (byteN s (i / 8)).testBit (7 - i % 8)
/-- The number that n bits tell from bit a on. -/
def rdBits (s : ByteArray) (a : Nat) : Nat → Nat
  | 0 => 0
  | n + 1 => 2 * rdBits s a n + (bitN s (a + n)).toNat
theorem rdBits_lt (s : ByteArray) (a n : Nat) : rdBits s a n < 2 ^ n := by
  induction n with
  | zero => simp [rdBits]
  | succ n ih => rw [rdBits, Nat.pow_succ]; have := Bool.toNat_lt (bitN s (a + n)); omega
theorem rdBits_lt32 (s : ByteArray) (a n : Nat) (hn : n ≤ 32) : rdBits s a n < 4294967296 :=
  Nat.lt_of_lt_of_le (rdBits_lt s a n) (Nat.pow_le_pow_right (by omega) hn)
theorem rdBits_lt31 (s : ByteArray) (a n : Nat) (hn : n ≤ 31) : rdBits s a n < 2147483648 :=
  Nat.lt_of_lt_of_le (rdBits_lt s a n) (Nat.pow_le_pow_right (by omega) hn)
theorem or_even_u32 (v : Nat) (b : Bool) (hv : v < 2147483648) : bits .or .u32 ((2 * v : Nat) : Int) (b.toNat : Int) = ((2 * v + b.toNat : Nat) : Int) := by
  have e32 : ∀ z : Nat, z < 4294967296 → (BitVec.ofInt 32 (z : Int)).toNat = z := fun z hz => by rw [BitVec.ofInt_natCast, BitVec.toNat_ofNat]; exact Nat.mod_eq_of_lt (by omega)
  have hb := Bool.toNat_lt b
  have ho : 2 * v ||| b.toNat = 2 * v + b.toNat := by
    have h := Nat.two_pow_add_eq_or_of_lt (i := 1) (b := b.toNat) (by omega) v
    rw [Nat.pow_one] at h
    exact h.symm
  show IntKind.u32.wrap ((BitVec.ofInt 32 ((2 * v : Nat) : Int) ||| BitVec.ofInt 32 ((b.toNat : Nat) : Int)).toNat : Int) = _
  rw [BitVec.toNat_or, e32 _ (by omega), e32 _ (by omega), ho, IntKind.wrap_u32]
  omega
theorem and_one_u8 (v j : Nat) (hv : v < 256) : bits .and .u8 ((v : Int) / 2 ^ j) 1 = ((v.testBit j).toNat : Int) := by
  have e : ((v : Int) / 2 ^ j) = ((v / 2 ^ j : Nat) : Int) := by rw [Int.natCast_ediv, Int.natCast_pow]; rfl
  have hlt : v / 2 ^ j < 256 := Nat.lt_of_le_of_lt (Nat.div_le_self _ _) hv
  have e8 : ∀ z : Nat, z < 256 → (BitVec.ofInt 8 (z : Int)).toNat = z := fun z hz => by rw [BitVec.ofInt_natCast, BitVec.toNat_ofNat]; exact Nat.mod_eq_of_lt (by omega)
  rw [e]
  show IntKind.u8.wrap ((BitVec.ofInt 8 ((v / 2 ^ j : Nat) : Int) &&& BitVec.ofInt 8 ((1 : Nat) : Int)).toNat : Int) = _
  rw [BitVec.toNat_and, e8 _ hlt, e8 1 (by omega), Nat.and_one_is_mod, IntKind.wrap_u8, Nat.testBit_eq_decide_div_mod_eq]
  rcases Nat.mod_two_eq_zero_or_one (v / 2 ^ j) with h | h <;> simp [h]
/-- What Get answers and leaves: the number, and where the reader stands, and whether it failed. -/
def getR (s : ByteArray) (at_ : Int) (bad : Bool) (n : Int) : Int × ByteArray × Int × Bool :=
  if bad = true ∨ n < 0 ∨ n > 32 ∨ n > 8 * (s.size : Int) - at_ then (0, s, at_, true) else ((rdBits s at_.toNat n.toNat : Int), s, at_ + n, false)

/-- Is a behind b, of 16 bits? -/
def after16 (a b : Int) : Bool := decide (0 ≤ a) && (decide (0 ≤ b) && (decide (a < 65536) && (decide (b < 65536) && (decide (1 ≤ (a - b) % 65536) && decide ((a - b) % 65536 < 32768)))))
theorem after16_iff (a b : Int) : after16 a b = true ↔ (0 ≤ a ∧ a < 65536) ∧ (0 ≤ b ∧ b < 65536) ∧ 1 ≤ (a - b) % 65536 ∧ (a - b) % 65536 < 32768 := by
  simp [after16]; omega
theorem and_mask_i64 (x : Int) (k : Nat) (hk : k ≤ 62) : bits .and .i64 x (2 ^ k - 1) = x % 2 ^ k := by
  have hp : (2 : Nat) ^ k ≤ 2 ^ 62 := Nat.pow_le_pow_right (by omega) hk
  have hp1 := Nat.two_pow_pos k
  have e1 : ((2 : Int) ^ k - 1) = ((2 ^ k - 1 : Nat) : Int) := by rw [Int.natCast_sub hp1, Int.natCast_pow]; rfl
  have e2 : ((2 : Int) ^ k) = ((2 ^ k : Nat) : Int) := by rw [Int.natCast_pow]; rfl
  have hd : (2 : Nat) ^ 64 = 2 ^ k * 2 ^ (64 - k) := by rw [← Nat.pow_add]; congr 1; omega
  show IntKind.i64.wrap ((BitVec.ofInt 64 x &&& BitVec.ofInt 64 (2 ^ k - 1)).toNat : Int) = _
  rw [e1, e2, BitVec.toNat_and, BitVec.ofInt_natCast, BitVec.toNat_ofNat, Nat.mod_eq_of_lt (show 2 ^ k - 1 < 2 ^ 64 by omega), Nat.and_two_pow_sub_one_eq_mod, BitVec.toNat_ofInt]
  have h64 : ((x % ((2 ^ 64 : Nat) : Int)).toNat : Int) = x % ((2 ^ 64 : Nat) : Int) := Int.toNat_of_nonneg (Int.emod_nonneg _ (by omega))
  have h3 : (((x % ((2 ^ 64 : Nat) : Int)).toNat % 2 ^ k : Nat) : Int) = x % ((2 ^ k : Nat) : Int) := by
    rw [Int.natCast_emod, h64, hd, Int.natCast_mul, Int.emod_emod_of_dvd _ (Int.dvd_mul_right _ _)]
  rw [h3, IntKind.wrap_i64]
  have l0 := Int.emod_nonneg x (show ((2 ^ k : Nat) : Int) ≠ 0 by omega)
  have l1 := Int.emod_lt_of_pos x (show (0 : Int) < ((2 ^ k : Nat) : Int) by omega)
  omega
theorem and_65535 (x : Int) : bits .and .i64 x 65535 = x % 65536 := and_mask_i64 x 16 (by omega)
/-- The rest of a list that is told. -/
def goodTail (l0 : Int) : Int → List Int → Bool
  | _, [] => true
  | p, n :: t => after16 n p && (after16 n l0 && goodTail l0 n t)
/-- Is it a list of what is asked for again? -/
def goodB : List Int → Bool
  | [] => false
  | n :: t => decide (0 ≤ n) && (decide (n ≤ 65535) && (decide (t.length < 4096) && goodTail n n t))
end Go.Proofs.YtkjjjgplidompaaDoor.B
