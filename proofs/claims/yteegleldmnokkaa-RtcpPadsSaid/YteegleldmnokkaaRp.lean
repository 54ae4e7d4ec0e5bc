/-
  Messages that are put together: what parts make a message, as bytes. Plain laws, no program.
-/
import Derived.Test.YteegleldmnokkaaBh
import Derived.Test.YteegleldmnokkaaPk
import Derived.Lib.UnsafeStr
namespace Go.Proofs.Yteegleldmnokkaa.B
open Go.RowKit Go.Proofs.YteegleldmnokkaaW.PrintWords

/-- A part: its count, its type, its body. -/
abbrev P3 := Int × Int × ByteArray
def partOk (x : P3) : Bool := decide (0 ≤ x.1 ∧ x.1 ≤ 31 ∧ 192 ≤ x.2.1 ∧ x.2.1 ≤ 223 ∧ x.2.2.size % 4 = 0 ∧ x.2.2.size ≤ 262140)
theorem partOk_iff (x : P3) : partOk x = true ↔ 0 ≤ x.1 ∧ x.1 ≤ 31 ∧ 192 ≤ x.2.1 ∧ x.2.1 ≤ 223 ∧ x.2.2.size % 4 = 0 ∧ x.2.2.size ≤ 262140 := by simp [partOk]
/-- A part's bytes. -/
def partBytes (x : P3) : List UInt8 := [UInt8.ofNat (128 + x.1.toNat), UInt8.ofNat x.2.1.toNat, UInt8.ofNat (x.2.2.size / 4 / 256), UInt8.ofNat (x.2.2.size / 4 % 256)] ++ x.2.2.data.toList
def sizeP (x : P3) : Nat := 4 + x.2.2.size
theorem partBytes_length (x : P3) : (partBytes x).length = sizeP x := by
  simp only [partBytes, sizeP, List.length_append, List.length_cons, List.length_nil, Array.length_toList]
  rfl
def total (l : List P3) : Nat := (l.map sizeP).sum
theorem total_nil : total [] = 0 := rfl
theorem total_snoc (l : List P3) (x : P3) : total (l ++ [x]) = total l + sizeP x := by simp [total]
theorem total_cons (l : List P3) (x : P3) : total (x :: l) = sizeP x + total l := by simp [total]
theorem total_append (l m : List P3) : total (l ++ m) = total l + total m := by simp [total]
def allBytes (l : List P3) : List UInt8 := l.flatMap partBytes
theorem allBytes_length (l : List P3) : (allBytes l).length = total l := by
  induction l with
  | nil => rfl
  | cons x l ih => rw [total_cons, ← ih, ← partBytes_length]; simp [allBytes]
theorem allBytes_snoc (l : List P3) (x : P3) : allBytes (l ++ [x]) = allBytes l ++ partBytes x := by simp [allBytes]
theorem total_take (l : List P3) (i : Nat) : total (l.take i) ≤ total l := by
  have := total_append (l.take i) (l.drop i)
  rw [List.take_append_drop] at this
  omega
/-- The message of parts, and the error. -/
def joinP (l : List P3) : ByteArray × Int :=
  if l = [] then (⟨#[]⟩, 1) else if ¬ (l.all partOk = true) then (⟨#[]⟩, 1) else if 65536 < total l then (⟨#[]⟩, 2) else (⟨(allBytes l).toArray⟩, 0)
/-- The text that a part's head makes. -/
theorem head_text (c t n : Nat) (hc : c ≤ 31) (ht : t ≤ 255) (hn : n ≤ 65535) :
    (strOfNums (packI ((((([] ++ toBits 2 2) ++ toBits 1 0) ++ toBits 5 c) ++ toBits 8 t) ++ toBits 16 n))).data.toList = [UInt8.ofNat (128 + c), UInt8.ofNat t, UInt8.ofNat (n / 256), UInt8.ofNat (n % 256)] := by
  have e : ((((([] ++ toBits 2 2) ++ toBits 1 0) ++ toBits 5 c) ++ toBits 8 t) ++ toBits 16 n) = [128 + c, t, n / 256, n % 256].flatMap (toBits 8) := by
    have e1 : toBits 2 2 ++ toBits 1 0 = toBits 3 4 := toBits_add 2 1 2 0 (by omega)
    have e2 : toBits 3 4 ++ toBits 5 c = toBits 8 (128 + c) := toBits_add 3 5 4 c (by omega)
    have e3 : toBits 8 (n / 256) ++ toBits 8 (n % 256) = toBits 16 n := by
      rw [toBits_add 8 8 (n / 256) (n % 256) (by omega)]
      congr 1
      omega
    simp only [List.flatMap_cons, List.flatMap_nil, List.append_nil, List.nil_append]
    rw [e1, e2, ← e3]
    simp only [List.append_assoc]
  rw [e]
  unfold packI
  rw [pack_flat]
  · rw [strOfNums_data]
    simp only [List.map_cons, List.map_nil, Int.toNat_natCast]
  · intro v hv
    simp only [List.mem_cons, List.not_mem_nil, or_false] at hv
    omega
end Go.Proofs.Yteegleldmnokkaa.B
