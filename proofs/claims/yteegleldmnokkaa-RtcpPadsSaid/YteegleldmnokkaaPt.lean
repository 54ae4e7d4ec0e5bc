/-
  What a part's head tells, byte by byte. Plain laws, no program.
-/
import Derived.Test.YteegleldmnokkaaRp
namespace Go.Proofs.Yteegleldmnokkaa.B
open Go.RowKit Go.Proofs.YteegleldmnokkaaW.PrintWords
theorem rdBits_add (s : ByteArray) (a n m : Nat) : rdBits s a (n + m) = rdBits s a n * 2 ^ m + rdBits s (a + n) m := by
  induction m with
  | zero => simp [rdBits]
  | succ m ih =>
    rw [← Nat.add_assoc, rdBits, ih, rdBits, Nat.pow_succ, Nat.mul_add, Nat.mul_left_comm, Nat.add_assoc a n m]
    rw [Nat.mul_comm 2 (2 ^ m)]
    omega
theorem rdBits_in (s : ByteArray) (a n : Nat) (h : a % 8 + n ≤ 8) : rdBits s a n = byteN s (a / 8) / 2 ^ (8 - a % 8 - n) % 2 ^ n := by
  induction n with
  | zero => simp [rdBits, Nat.mod_one]
  | succ n ih =>
    rw [rdBits, ih (by omega)]
    have e1 : (a + n) / 8 = a / 8 := by omega
    have e2 : (a + n) % 8 = a % 8 + n := by omega
    unfold bitN
    rw [e1, e2, show 8 - a % 8 - n = 8 - a % 8 - (n + 1) + 1 by omega, show 7 - (a % 8 + n) = 8 - a % 8 - (n + 1) by omega]
    generalize 8 - a % 8 - (n + 1) = K
    generalize byteN s (a / 8) = v
    rw [Nat.testBit_eq_decide_div_mod_eq]
    have e3 : (decide (v / 2 ^ K % 2 = 1)).toNat = v / 2 ^ K % 2 := by
      by_cases h : v / 2 ^ K % 2 = 1
      · rw [h]; rfl
      · have : v / 2 ^ K % 2 = 0 := by omega
        rw [this]; rfl
    rw [e3, Nat.pow_succ, ← Nat.div_div_eq_div_mul]
    generalize v / 2 ^ K = u
    rw [Nat.pow_succ, Nat.mul_comm (2 ^ n) 2, Nat.mod_mul]
    omega
theorem rd_mark (s : ByteArray) : rdBits s 0 2 = byteN s 0 / 64 % 4 := rdBits_in s 0 2 (by omega)
theorem rd_pad (s : ByteArray) : rdBits s 2 1 = byteN s 0 / 32 % 2 := rdBits_in s 2 1 (by omega)
theorem rd_count (s : ByteArray) : rdBits s 3 5 = byteN s 0 % 32 := by
  have := rdBits_in s 3 5 (by omega)
  simpa using this
theorem rd_type (s : ByteArray) : rdBits s 8 8 = byteN s 1 := by
  have h := rdBits_in s 8 8 (by omega)
  have := byteN_lt s 1
  simp at h
  rw [h]
  omega
theorem rd_words (s : ByteArray) : rdBits s 16 16 = byteN s 2 * 256 + byteN s 3 := by
  rw [show (16 : Nat) = 8 + 8 by rfl, rdBits_add s 16 8 8]
  have h2 := rdBits_in s 16 8 (by omega)
  have h3 := rdBits_in s 24 8 (by omega)
  have l2 := byteN_lt s 2
  have l3 := byteN_lt s 3
  simp at h2 h3
  rw [h2, show 16 + 8 = 24 by rfl, h3]
  omega
/-- A part's head, or why there is none. The text is not empty. -/
def partSize (s : ByteArray) : Nat := 4 + 4 * (byteN s 2 * 256 + byteN s 3)
def padN (s : ByteArray) : Nat := if 4 < partSize s then byteN s (partSize s - 1) else 0
def partErr (s : ByteArray) : Int :=
  if s.size < 4 then 60 else if s.size < partSize s then 60 else if byteN s 0 / 64 % 4 ≠ 2 then 70 else if byteN s 1 < 192 ∨ 223 < byteN s 1 then 81 else
    if byteN s 0 / 32 % 2 = 1 ∧ ¬ (partSize s = s.size ∧ 4 ≤ padN s ∧ padN s % 4 = 0 ∧ padN s ≤ partSize s - 4) then 91 else 0
def partBody (s : ByteArray) : ByteArray := s.extract 4 (if byteN s 0 / 32 % 2 = 1 then partSize s - padN s else partSize s)
def partOf (s : ByteArray) : P3 := ((byteN s 0 % 32 : Nat), (byteN s 1 : Nat), partBody s)
end Go.Proofs.Yteegleldmnokkaa.B
