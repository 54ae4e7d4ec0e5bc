/-
  What a body of packets that are asked for again tells, as plain lists.
-/
import Derived.Test.YtnllbldfganfgaaBw
namespace Go.Proofs.Ytnllbldfganfgaa.B
open Go.RowKit Go.Proofs.YtnllbldfganfgaaW.PrintWords

/-- What an entry tells, of its first k bits. -/
def lostPart (f m : Nat) (k : Nat) : List Int := (f : Int) :: ((List.range k).filter fun i => m.testBit i).map fun i => (((f + i + 1) % 65536 : Nat) : Int)
theorem lostPart_zero (f m : Nat) : lostPart f m 0 = [(f : Int)] := rfl
theorem lostPart_yes (f m k : Nat) (h : m.testBit k = true) : lostPart f m (k + 1) = lostPart f m k ++ [(((f + k + 1) % 65536 : Nat) : Int)] := by
  simp [lostPart, List.range_succ, List.filter_append, h]
theorem lostPart_no (f m k : Nat) (h : m.testBit k = false) : lostPart f m (k + 1) = lostPart f m k := by
  simp [lostPart, List.range_succ, List.filter_append, h]
theorem lostPart_length (f m k : Nat) : (lostPart f m k).length ≤ k + 1 := by
  have := List.length_filter_le (fun i => m.testBit i) (List.range k)
  simp [lostPart] at this ⊢; omega
/-- What entry j tells. -/
def lostAt (s : ByteArray) (j : Nat) : List Int := lostPart (rdBits s (64 + 32 * j) 16) (rdBits s (80 + 32 * j) 16) 16
/-- What the first n entries tell. -/
def lostAll (s : ByteArray) (n : Nat) : List Int := (List.range n).flatMap (lostAt s)
theorem lostAll_succ (s : ByteArray) (n : Nat) : lostAll s (n + 1) = lostAll s n ++ lostAt s n := by simp [lostAll, List.range_succ]
theorem lostAll_length (s : ByteArray) (n : Nat) : (lostAll s n).length ≤ 17 * n := by
  induction n with
  | zero => simp [lostAll]
  | succ n ih => rw [lostAll_succ, List.length_append]; have := lostPart_length (rdBits s (64 + 32 * n) 16) (rdBits s (80 + 32 * n) 16) 16; unfold lostAt; omega
/-- What a body tells, and the error. -/
def nackDec (s : ByteArray) : Int × Int × List Int × Int :=
  if 65536 < s.size then (0, 0, [], 2) else if s.size % 4 ≠ 0 then (0, 0, [], 90) else if s.size < 12 then (0, 0, [], 60)
  else if 4096 < (lostAll s ((s.size - 8) / 4)).length then (0, 0, [], 3)
  else if goodB (lostAll s ((s.size - 8) / 4)) = true then ((rdBits s 0 32 : Int), (rdBits s 32 32 : Int), lostAll s ((s.size - 8) / 4), 0) else (0, 0, [], 110)
end Go.Proofs.Ytnllbldfganfgaa.B
