/-
  No cell of these rows narrows 'for every input' (looked for: loops, veiled, ifaces, maps, wideKeys, modest, calm, conditions, laid).
  DERIVED. THE GIVEN ROWS OF THIS SEAT. 5 by the template 'for every input the law returns true; each argument reads behind the call as it read before'; 0 by the template 'total and deterministic' (their statements: YtpmbacgdbnfeeaaTotals.lean).
  GIVEN WITH THE SEED: the statements are not yours to turn. If you find one false, say at which input.
  Laid BY PROGRAM, IN A SANDBOX (cutbox-rows.mjs): the forced cells as the released guide's own fill.sh prints them over the translation 6e1717daf6a62d27… (all of the seat's roots in one cut). By AI agents, Wed Nov 11 2026. No macro, syntax, notation, axiom, sorry.
-/
import Derived.Test.YtpmbacgdbnfeeaaChecked
import GoSem.Claim
import GoSem.ClaimJoined
import GoSem.ClaimMapViews
import Derived.JoinedTies
import Derived.KernelRfl
namespace Go.Proofs.Ytpmbacgdbnfeeaa
/- THE CELL 'sum', in the pinned program and in every row, IS THE sha256 OF THE DUMP (.gsa) THAT YtpmbacgdbnfeeaaProg.lean LOADS. Nothing in Lean hashes anything: it is a label: what it is worth is what the hold of that sum in a sandbox is worth. -/
noncomputable def Try.pinned : Pinned := { name := "ytpmbacgdbnfeeaa", sum := "6e1717daf6a62d270ac7aa43e218abbadf03e0b062b9518bd420339126e2318a", checked := Try.checked }
namespace Rows
def none {H : Type} : Left H := { results := [], args := [] }

/-- 'flywheellaw14.RatePlays': WHATEVER THE INPUT: true; the input reads as it did. -/
def ratePlaysSpec : ChangeSpec := { name := "ratePlays", fn := fun _ => fun
  | [d1, d2] => { results := [.lit (.bool true)], args := [d1, d2] }
  | _ => none }
def ratePlaysRow : OpenClaim := { program := "ytpmbacgdbnfeeaa", sum := "6e1717daf6a62d270ac7aa43e218abbadf03e0b062b9518bd420339126e2318a", func := "flywheel/flywheellaw14.RatePlays", spec := "ratePlays", inPlace := ["math/bits.Sub64", "math/bits.Add64"], named := ["math/bits.divideError", "math/bits.overflowError"], apart := false }
def RatePlaysSaid : Prop := ratePlaysRow.holds Try.pinned (OpenSpec.ofChange ratePlaysSpec)

/-- ITS FALSE NEIGHBOUR: 'it returns false'. Refute it at one input. -/
def ratePlaysWrong : ChangeSpec := { name := "ratePlays", fn := fun _ => fun
  | [d1, d2] => { results := [.lit (.bool false)], args := [d1, d2] }
  | _ => none }
def RatePlaysWrongFalsely : Prop := ratePlaysRow.holds Try.pinned (OpenSpec.ofChange ratePlaysWrong)

/-- 'flywheellaw14.RateBounds': WHATEVER THE INPUT: true; the input reads as it did. -/
def rateBoundsSpec : ChangeSpec := { name := "rateBounds", fn := fun _ => fun
  | [d1, d2, d3] => { results := [.lit (.bool true)], args := [d1, d2, d3] }
  | _ => none }
def rateBoundsRow : OpenClaim := { program := "ytpmbacgdbnfeeaa", sum := "6e1717daf6a62d270ac7aa43e218abbadf03e0b062b9518bd420339126e2318a", func := "flywheel/flywheellaw14.RateBounds", spec := "rateBounds", inPlace := ["math/bits.Sub64", "math/bits.Add64"], named := ["math/bits.divideError", "math/bits.overflowError"], apart := false }
def RateBoundsSaid : Prop := rateBoundsRow.holds Try.pinned (OpenSpec.ofChange rateBoundsSpec)

/-- ITS FALSE NEIGHBOUR: 'it returns false'. Refute it at one input. -/
def rateBoundsWrong : ChangeSpec := { name := "rateBounds", fn := fun _ => fun
  | [d1, d2, d3] => { results := [.lit (.bool false)], args := [d1, d2, d3] }
  | _ => none }
def RateBoundsWrongFalsely : Prop := rateBoundsRow.holds Try.pinned (OpenSpec.ofChange rateBoundsWrong)

/-- 'flywheellaw14.RateSteady': WHATEVER THE INPUT: true; the input reads as it did. -/
def rateSteadySpec : ChangeSpec := { name := "rateSteady", fn := fun _ => fun
  | [d1, d2, d3] => { results := [.lit (.bool true)], args := [d1, d2, d3] }
  | _ => none }
def rateSteadyRow : OpenClaim := { program := "ytpmbacgdbnfeeaa", sum := "6e1717daf6a62d270ac7aa43e218abbadf03e0b062b9518bd420339126e2318a", func := "flywheel/flywheellaw14.RateSteady", spec := "rateSteady", inPlace := ["math/bits.Sub64", "math/bits.Add64"], named := ["math/bits.divideError", "math/bits.overflowError"], apart := false }
def RateSteadySaid : Prop := rateSteadyRow.holds Try.pinned (OpenSpec.ofChange rateSteadySpec)

/-- ITS FALSE NEIGHBOUR: 'it returns false'. Refute it at one input. -/
def rateSteadyWrong : ChangeSpec := { name := "rateSteady", fn := fun _ => fun
  | [d1, d2, d3] => { results := [.lit (.bool false)], args := [d1, d2, d3] }
  | _ => none }
def RateSteadyWrongFalsely : Prop := rateSteadyRow.holds Try.pinned (OpenSpec.ofChange rateSteadyWrong)

/-- 'flywheellaw14.RateNone': WHATEVER THE INPUT: true; the input reads as it did. -/
def rateNoneSpec : ChangeSpec := { name := "rateNone", fn := fun _ => fun
  | [d1, d2] => { results := [.lit (.bool true)], args := [d1, d2] }
  | _ => none }
def rateNoneRow : OpenClaim := { program := "ytpmbacgdbnfeeaa", sum := "6e1717daf6a62d270ac7aa43e218abbadf03e0b062b9518bd420339126e2318a", func := "flywheel/flywheellaw14.RateNone", spec := "rateNone", inPlace := ["math/bits.Sub64", "math/bits.Add64"], named := ["math/bits.divideError", "math/bits.overflowError"], apart := false }
def RateNoneSaid : Prop := rateNoneRow.holds Try.pinned (OpenSpec.ofChange rateNoneSpec)

/-- ITS FALSE NEIGHBOUR: 'it returns false'. Refute it at one input. -/
def rateNoneWrong : ChangeSpec := { name := "rateNone", fn := fun _ => fun
  | [d1, d2] => { results := [.lit (.bool false)], args := [d1, d2] }
  | _ => none }
def RateNoneWrongFalsely : Prop := rateNoneRow.holds Try.pinned (OpenSpec.ofChange rateNoneWrong)

/-- 'flywheellaw14.RateOrder': WHATEVER THE INPUT: true; the input reads as it did. -/
def rateOrderSpec : ChangeSpec := { name := "rateOrder", fn := fun _ => fun
  | [d1, d2] => { results := [.lit (.bool true)], args := [d1, d2] }
  | _ => none }
def rateOrderRow : OpenClaim := { program := "ytpmbacgdbnfeeaa", sum := "6e1717daf6a62d270ac7aa43e218abbadf03e0b062b9518bd420339126e2318a", func := "flywheel/flywheellaw14.RateOrder", spec := "rateOrder", inPlace := ["math/bits.Sub64", "math/bits.Add64"], named := ["math/bits.divideError", "math/bits.overflowError"], apart := false }
def RateOrderSaid : Prop := rateOrderRow.holds Try.pinned (OpenSpec.ofChange rateOrderSpec)

/-- ITS FALSE NEIGHBOUR: 'it returns false'. Refute it at one input. -/
def rateOrderWrong : ChangeSpec := { name := "rateOrder", fn := fun _ => fun
  | [d1, d2] => { results := [.lit (.bool false)], args := [d1, d2] }
  | _ => none }
def RateOrderWrongFalsely : Prop := rateOrderRow.holds Try.pinned (OpenSpec.ofChange rateOrderWrong)

/- THE SECOND FORM. 'bulk': how many values and letters a reading holds, each counted each time it is reached (what is shared counts as often as it is met; a slice's spare places count too). A statement '..UptoSaid' is the law's where the arguments, and the package variables that the reading takes, are together of bulk at most 1048576: NARROWER than '..Said'. Prove '..Said' where nothing that the law and all that it calls make is longer than what came in: it says more and counts as full. Else prove '..UptoSaid'. A law counts once. -/
mutual
def uptoBulk {H : Type} : DataW H → Nat
  | .lit (.string bytes) => bytes.length + 1
  | .lit _ => 1
  | .nil => 1
  | .ptr d => uptoBulk d + 1
  | .slice elems spare => uptoBulkAll elems + uptoBulkAll spare + 1
  | .agg parts => uptoBulkAll parts + 1
  | .iface _ d => uptoBulk d + 1
  | .map entries => uptoBulkEntries entries + 1
  | .held _ => 1
def uptoBulkAll {H : Type} : List (DataW H) → Nat
  | [] => 0
  | d :: r => uptoBulk d + uptoBulkAll r
def uptoBulkEntries {H : Type} : List (Lit × DataW H) → Nat
  | [] => 0
  | x :: r => uptoBulkEntry x + uptoBulkEntries r
def uptoBulkEntry {H : Type} : Lit × DataW H → Nat
  | (.string bytes, d) => bytes.length + uptoBulk d + 1
  | (_, d) => uptoBulk d + 1
 end
def uptoSmall : (H : Type) → List (DataW H) → Bool := fun _ ds => decide (uptoBulkAll ds ≤ 1048576)
def OpenSpec.upto (s : _root_.Go.ChangeSpec) : _root_.Go.OpenSpec := { _root_.Go.OpenSpec.ofChange s with cond := some uptoSmall }

/-- 'flywheellaw14.RatePlays', WHERE WHAT IT READS IS OF BULK AT MOST 1048576: true; the input reads as it did. -/
def ratePlaysUptoRow : OpenClaim := { program := "ytpmbacgdbnfeeaa", sum := "6e1717daf6a62d270ac7aa43e218abbadf03e0b062b9518bd420339126e2318a", func := "flywheel/flywheellaw14.RatePlays", spec := "ratePlays", inPlace := ["math/bits.Sub64", "math/bits.Add64"], named := ["math/bits.divideError", "math/bits.overflowError"], apart := false, narrowed := true }
def RatePlaysUptoSaid : Prop := ratePlaysUptoRow.holds Try.pinned (OpenSpec.upto ratePlaysSpec)

/-- 'flywheellaw14.RateBounds', WHERE WHAT IT READS IS OF BULK AT MOST 1048576: true; the input reads as it did. -/
def rateBoundsUptoRow : OpenClaim := { program := "ytpmbacgdbnfeeaa", sum := "6e1717daf6a62d270ac7aa43e218abbadf03e0b062b9518bd420339126e2318a", func := "flywheel/flywheellaw14.RateBounds", spec := "rateBounds", inPlace := ["math/bits.Sub64", "math/bits.Add64"], named := ["math/bits.divideError", "math/bits.overflowError"], apart := false, narrowed := true }
def RateBoundsUptoSaid : Prop := rateBoundsUptoRow.holds Try.pinned (OpenSpec.upto rateBoundsSpec)

/-- 'flywheellaw14.RateSteady', WHERE WHAT IT READS IS OF BULK AT MOST 1048576: true; the input reads as it did. -/
def rateSteadyUptoRow : OpenClaim := { program := "ytpmbacgdbnfeeaa", sum := "6e1717daf6a62d270ac7aa43e218abbadf03e0b062b9518bd420339126e2318a", func := "flywheel/flywheellaw14.RateSteady", spec := "rateSteady", inPlace := ["math/bits.Sub64", "math/bits.Add64"], named := ["math/bits.divideError", "math/bits.overflowError"], apart := false, narrowed := true }
def RateSteadyUptoSaid : Prop := rateSteadyUptoRow.holds Try.pinned (OpenSpec.upto rateSteadySpec)

/-- 'flywheellaw14.RateNone', WHERE WHAT IT READS IS OF BULK AT MOST 1048576: true; the input reads as it did. -/
def rateNoneUptoRow : OpenClaim := { program := "ytpmbacgdbnfeeaa", sum := "6e1717daf6a62d270ac7aa43e218abbadf03e0b062b9518bd420339126e2318a", func := "flywheel/flywheellaw14.RateNone", spec := "rateNone", inPlace := ["math/bits.Sub64", "math/bits.Add64"], named := ["math/bits.divideError", "math/bits.overflowError"], apart := false, narrowed := true }
def RateNoneUptoSaid : Prop := rateNoneUptoRow.holds Try.pinned (OpenSpec.upto rateNoneSpec)

/-- 'flywheellaw14.RateOrder', WHERE WHAT IT READS IS OF BULK AT MOST 1048576: true; the input reads as it did. -/
def rateOrderUptoRow : OpenClaim := { program := "ytpmbacgdbnfeeaa", sum := "6e1717daf6a62d270ac7aa43e218abbadf03e0b062b9518bd420339126e2318a", func := "flywheel/flywheellaw14.RateOrder", spec := "rateOrder", inPlace := ["math/bits.Sub64", "math/bits.Add64"], named := ["math/bits.divideError", "math/bits.overflowError"], apart := false, narrowed := true }
def RateOrderUptoSaid : Prop := rateOrderUptoRow.holds Try.pinned (OpenSpec.upto rateOrderSpec)

end Rows
end Go.Proofs.Ytpmbacgdbnfeeaa
