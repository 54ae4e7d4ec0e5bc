import Derived.Test.YtkjjjgplidompaaDoorProg
import Derived.Below
import Derived.Deep.Draws
import Derived.Deep.AppendLies
import Derived.Maps.AppendAt
import Derived.OwnWalk
import Derived.Laws.BytesArg
import Derived.Laws.MakeOwn
import Derived.Laws.OwnMore
import Derived.Deep.OwnRows
import Derived.Tactics
import Derived.Lib.ConvBytes
import Derived.Laws.Slices
import Derived.WalkKit
import Derived.KernelRfl
import Derived.RowKit3
import Derived.Deep.LoopGhost
import Derived.Deep.QuietTactic
import Derived.BigQuiet
import Derived.WideLaws
import Derived.Deep.DeepCutAuto
import Derived.Deep.CutBlock
import Derived.Deep.RegionHeld3
import Derived.Laws.Rows
import Derived.Lib.AppendStr
import Derived.ArgAppend
import Derived.Laws.IdiomCopy
import Derived.OrdersHeld
import Derived.Laws.BitsLemmas
import Derived.RowKit
import Derived.Test.YtkjjjgplidompaaDoorWWords
import Derived.Test.YtkjjjgplidompaaDoorWLast
import Derived.Test.YtkjjjgplidompaaDoorWTab
import Derived.Test.YtkjjjgplidompaaDoorWFour
import Derived.Test.YtkjjjgplidompaaDoorWQPut
import Derived.Test.YtkjjjgplidompaaDoorWApart
import Derived.Test.YtkjjjgplidompaaDoorWArr
import Derived.Test.YtkjjjgplidompaaDoorWZeros
import Derived.Test.YtkjjjgplidompaaDoorWFoot
import Derived.Test.YtkjjjgplidompaaDoorWKept
import Derived.Test.YtkjjjgplidompaaDoorWShare
import Derived.Test.YtkjjjgplidompaaDoorWN
import Derived.Test.YtkjjjgplidompaaDoorWFootNe
import Derived.Test.YtkjjjgplidompaaDoorWAt
import Derived.Test.YtkjjjgplidompaaDoorWEqStruct
import Derived.Test.YtkjjjgplidompaaDoorWRepsOne
import Derived.Test.YtkjjjgplidompaaDoorWInv
import Derived.Test.YtkjjjgplidompaaDoorWInvWords
import Derived.Test.YtkjjjgplidompaaDoorWGuard
import Derived.Test.YtkjjjgplidompaaDoorWNEv
import Derived.Test.YtkjjjgplidompaaDoorWMore
import Derived.BigRegion
import Derived.WalkMore
import Derived.ScopeJumps
import Derived.Outline
import Derived.Laws.Externs
namespace Go.Proofs.YtkjjjgplidompaaDoor.B
open Go.RowKit Go.Proofs.YtkjjjgplidompaaDoorW.PrintWords Go.Proofs.YtkjjjgplidompaaDoorW.PrintLast Go.Proofs.YtkjjjgplidompaaDoorW.PrintMore
set_option linter.unusedVariables false
set_option linter.unusedSimpArgs false
/-- The halves of a number of 128 bits. -/
def hi64 (n : Int) : Int := n / 18446744073709551616 % 18446744073709551616
def lo64 (n : Int) : Int := n % 18446744073709551616
/-- A number, held to 64 bits. -/
def hold (n : Int) : Int := if n < -9223372036854775808 then -9223372036854775808 else if 9223372036854775807 < n then 9223372036854775807 else n
theorem hold_lo {n : Int} (h : n < -9223372036854775808) : hold n = -9223372036854775808 := if_pos h
theorem hold_hi {n : Int} (h : 9223372036854775807 < n) : hold n = 9223372036854775807 := by unfold hold; rw [if_neg (by omega), if_pos h]
theorem hold_in {n : Int} (h : -9223372036854775808 ≤ n) (h' : n ≤ 9223372036854775807) : hold n = n := by unfold hold; rw [if_neg (by omega), if_neg (by omega)]
theorem hold_range (n : Int) : -9223372036854775808 ≤ hold n ∧ hold n ≤ 9223372036854775807 := by unfold hold; split; omega; split <;> omega
theorem ret_int {k : IntKind} {a b : Int} (h : a = b) : Ending.returned (.int k a) = .returned (.int k b) := by rw [h]
def Wide (n : Int) : Prop := -170141183460469231731687303715884105728 ≤ n ∧ n < 170141183460469231731687303715884105728
theorem held_word (n : Int) : ∃ q l : Int, n = q * 18446744073709551616 + l ∧ 0 ≤ l ∧ l < 18446744073709551616 ∧ lo64 n = l ∧ hi64 n = q % 18446744073709551616 ∧
    ((l < 9223372036854775808 ∧ wrap64 l = l ∧ IntKind.u64.wrap (wrap64 l / 9223372036854775808) = 0) ∨ (9223372036854775808 ≤ l ∧ wrap64 l = l - 18446744073709551616 ∧ IntKind.u64.wrap (wrap64 l / 9223372036854775808) = 18446744073709551615)) := by
  have l0 : 0 ≤ n % 18446744073709551616 := by omega
  have l1 : n % 18446744073709551616 < 18446744073709551616 := by omega
  refine ⟨n / 18446744073709551616, n % 18446744073709551616, by omega, l0, l1, rfl, rfl, ?_⟩
  generalize n % 18446744073709551616 = l at *
  rw [IntKind.wrap_u64]
  by_cases c : l < 9223372036854775808
  · have w : wrap64 l = l := by unfold wrap64; omega
    exact .inl ⟨c, w, by rw [w]; omega⟩
  · have w : wrap64 l = l - 18446744073709551616 := by unfold wrap64; omega
    exact .inr ⟨by omega, w, by rw [w]; omega⟩
theorem held_same {n : Int} (hn : Wide n) (h : (IntKind.u64.wrap (wrap64 (lo64 n) / 9223372036854775808) == hi64 n) = true) : wrap64 (lo64 n) = hold n := by
  unfold Wide at hn
  have h := eq_of_beq h
  obtain ⟨q, l, e, l0, l1, el, eh, ⟨c, w, k⟩ | ⟨c, w, k⟩⟩ := held_word n
  · rw [el] at h ⊢
    rw [k, eh] at h
    rw [w, hold_in] <;> omega
  · rw [el] at h ⊢
    rw [k, eh] at h
    rw [w, hold_in] <;> omega
theorem held_not {n : Int} (hn : Wide n) (h : (IntKind.u64.wrap (wrap64 (lo64 n) / 9223372036854775808) == hi64 n) = false) : n < -9223372036854775808 ∨ 9223372036854775807 < n := by
  unfold Wide at hn
  have h := ne_of_beq_false h
  obtain ⟨q, l, e, l0, l1, el, eh, ⟨c, w, k⟩ | ⟨c, w, k⟩⟩ := held_word n
  · rw [el, k, eh] at h
    omega
  · rw [el, k, eh] at h
    omega
theorem held_sign {n : Int} (hn : Wide n) : wrap64 (hi64 n) < 0 ↔ n < 0 := by
  unfold Wide at hn
  unfold wrap64 hi64
  omega
/-- The model's entry for math/bits.Sub64, in the row's own words. -/
def sub64Entry : Array Value → Sem Value := fun args => do
  let (x, y, b) ← Extern.MathBitsCarry.three "Sub64" args
  pure (Extern.MathBitsCarry.pair ((x + Extern.MathBitsCarry.m64 - y - b) % Extern.MathBitsCarry.m64) (if x < y + b then 1 else 0))
theorem run_sub64 (x y b : Nat) (hb : b ≤ 1) (w : World) :
    (sub64Entry #[.int .u64 x, .int .u64 y, .int .u64 b]).run Tryd.prog w =
      .ok (.tuple #[.int .u64 (((x + 18446744073709551616 - y - b) % 18446744073709551616 : Nat) : Int), .int .u64 ((if x < y + b then 1 else 0 : Nat) : Int)]) w := by
  have : b = 0 ∨ b = 1 := by omega
  rcases this with rfl | rfl <;> rfl
end Go.Proofs.YtkjjjgplidompaaDoor.B
