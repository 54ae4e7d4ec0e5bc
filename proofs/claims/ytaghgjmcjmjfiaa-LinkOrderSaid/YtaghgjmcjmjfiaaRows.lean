/-
  No cell of these rows narrows 'for every input' (looked for: loops, veiled, ifaces, maps, wideKeys, modest, calm, conditions, laid).
  DERIVED. THE GIVEN ROWS OF THIS SEAT. 5 by the template 'for every input the law returns true; each argument reads behind the call as it read before'; 0 by the template 'total and deterministic' (their statements: YtaghgjmcjmjfiaaTotals.lean).
  GIVEN WITH THE SEED: the statements are not yours to turn. If you find one false, say at which input.
  Laid BY PROGRAM, IN A SANDBOX (cutbox-rows.mjs): the forced cells as the released guide's own fill.sh prints them over the translation fbfc77303322b012… (all of the seat's roots in one cut). By AI agents, Wed Nov 11 2026. No macro, syntax, notation, axiom, sorry.
-/
import Derived.Test.YtaghgjmcjmjfiaaChecked
import GoSem.Claim
import GoSem.ClaimJoined
import GoSem.ClaimMapViews
import Derived.JoinedTies
import Derived.KernelRfl
namespace Go.Proofs.Ytaghgjmcjmjfiaa
/- THE CELL 'sum', in the pinned program and in every row, IS THE sha256 OF THE DUMP (.gsa) THAT YtaghgjmcjmjfiaaProg.lean LOADS. Nothing in Lean hashes anything: it is a label: what it is worth is what the hold of that sum in a sandbox is worth. -/
noncomputable def Try.pinned : Pinned := { name := "ytaghgjmcjmjfiaa", sum := "fbfc77303322b0128a05b6004ea32a3f6158b7b4bf2e8c1daa17cee6f7f93c33", checked := Try.checked }
namespace Rows
def none {H : Type} : Left H := { results := [], args := [] }

/-- 'flywheellaw30.LinkOrder': WHATEVER THE INPUT: true; the input reads as it did. -/
def linkOrderSpec : ChangeSpec := { name := "linkOrder", fn := fun _ => fun
  | [d1, d2, d3] => { results := [.lit (.bool true)], args := [d1, d2, d3] }
  | _ => none }
def linkOrderRow : OpenClaim := { program := "ytaghgjmcjmjfiaa", sum := "fbfc77303322b0128a05b6004ea32a3f6158b7b4bf2e8c1daa17cee6f7f93c33", func := "flywheel/flywheellaw30.LinkOrder", spec := "linkOrder", inPlace := ["math/bits.Sub64", "math/bits.Add64"], unfollowed := true, recurses := true, named := ["math/bits.divideError", "math/bits.overflowError"], apart := false }
def LinkOrderSaid : Prop := linkOrderRow.holds Try.pinned (OpenSpec.ofChange linkOrderSpec)

/-- ITS FALSE NEIGHBOUR: 'it returns false'. Refute it at one input. -/
def linkOrderWrong : ChangeSpec := { name := "linkOrder", fn := fun _ => fun
  | [d1, d2, d3] => { results := [.lit (.bool false)], args := [d1, d2, d3] }
  | _ => none }
def LinkOrderWrongFalsely : Prop := linkOrderRow.holds Try.pinned (OpenSpec.ofChange linkOrderWrong)

/-- 'flywheellaw30.LinkWaits': WHATEVER THE INPUT: true; the input reads as it did. -/
def linkWaitsSpec : ChangeSpec := { name := "linkWaits", fn := fun _ => fun
  | [d1, d2, d3] => { results := [.lit (.bool true)], args := [d1, d2, d3] }
  | _ => none }
def linkWaitsRow : OpenClaim := { program := "ytaghgjmcjmjfiaa", sum := "fbfc77303322b0128a05b6004ea32a3f6158b7b4bf2e8c1daa17cee6f7f93c33", func := "flywheel/flywheellaw30.LinkWaits", spec := "linkWaits", inPlace := ["math/bits.Sub64", "math/bits.Add64"], unfollowed := true, recurses := true, named := ["math/bits.divideError", "math/bits.overflowError"], apart := false }
def LinkWaitsSaid : Prop := linkWaitsRow.holds Try.pinned (OpenSpec.ofChange linkWaitsSpec)

/-- ITS FALSE NEIGHBOUR: 'it returns false'. Refute it at one input. -/
def linkWaitsWrong : ChangeSpec := { name := "linkWaits", fn := fun _ => fun
  | [d1, d2, d3] => { results := [.lit (.bool false)], args := [d1, d2, d3] }
  | _ => none }
def LinkWaitsWrongFalsely : Prop := linkWaitsRow.holds Try.pinned (OpenSpec.ofChange linkWaitsWrong)

/-- 'flywheellaw30.LinkNone': WHATEVER THE INPUT: true; the input reads as it did. -/
def linkNoneSpec : ChangeSpec := { name := "linkNone", fn := fun _ => fun
  | [d] => { results := [.lit (.bool true)], args := [d] }
  | _ => none }
def linkNoneRow : OpenClaim := { program := "ytaghgjmcjmjfiaa", sum := "fbfc77303322b0128a05b6004ea32a3f6158b7b4bf2e8c1daa17cee6f7f93c33", func := "flywheel/flywheellaw30.LinkNone", spec := "linkNone", inPlace := ["math/bits.Add64", "math/bits.Sub64"], unfollowed := true, recurses := true, named := ["math/bits.divideError", "math/bits.overflowError"], apart := false }
def LinkNoneSaid : Prop := linkNoneRow.holds Try.pinned (OpenSpec.ofChange linkNoneSpec)

/-- ITS FALSE NEIGHBOUR: 'it returns false'. Refute it at one input. -/
def linkNoneWrong : ChangeSpec := { name := "linkNone", fn := fun _ => fun
  | [d] => { results := [.lit (.bool false)], args := [d] }
  | _ => none }
def LinkNoneWrongFalsely : Prop := linkNoneRow.holds Try.pinned (OpenSpec.ofChange linkNoneWrong)

/-- 'flywheellaw30.LinkSteady': WHATEVER THE INPUT: true; the input reads as it did. -/
def linkSteadySpec : ChangeSpec := { name := "linkSteady", fn := fun _ => fun
  | [d1, d2, d3] => { results := [.lit (.bool true)], args := [d1, d2, d3] }
  | _ => none }
def linkSteadyRow : OpenClaim := { program := "ytaghgjmcjmjfiaa", sum := "fbfc77303322b0128a05b6004ea32a3f6158b7b4bf2e8c1daa17cee6f7f93c33", func := "flywheel/flywheellaw30.LinkSteady", spec := "linkSteady", inPlace := ["math/bits.Sub64", "math/bits.Add64"], unfollowed := true, recurses := true, named := ["math/bits.divideError", "math/bits.overflowError"], apart := false }
def LinkSteadySaid : Prop := linkSteadyRow.holds Try.pinned (OpenSpec.ofChange linkSteadySpec)

/-- ITS FALSE NEIGHBOUR: 'it returns false'. Refute it at one input. -/
def linkSteadyWrong : ChangeSpec := { name := "linkSteady", fn := fun _ => fun
  | [d1, d2, d3] => { results := [.lit (.bool false)], args := [d1, d2, d3] }
  | _ => none }
def LinkSteadyWrongFalsely : Prop := linkSteadyRow.holds Try.pinned (OpenSpec.ofChange linkSteadyWrong)

/-- 'flywheellaw30.LinkLoses': WHATEVER THE INPUT: true; the input reads as it did. -/
def linkLosesSpec : ChangeSpec := { name := "linkLoses", fn := fun _ => fun
  | [d1, d2, d3] => { results := [.lit (.bool true)], args := [d1, d2, d3] }
  | _ => none }
def linkLosesRow : OpenClaim := { program := "ytaghgjmcjmjfiaa", sum := "fbfc77303322b0128a05b6004ea32a3f6158b7b4bf2e8c1daa17cee6f7f93c33", func := "flywheel/flywheellaw30.LinkLoses", spec := "linkLoses", inPlace := ["math/bits.Sub64", "math/bits.Add64"], unfollowed := true, recurses := true, named := ["math/bits.divideError", "math/bits.overflowError"], apart := false }
def LinkLosesSaid : Prop := linkLosesRow.holds Try.pinned (OpenSpec.ofChange linkLosesSpec)

/-- ITS FALSE NEIGHBOUR: 'it returns false'. Refute it at one input. -/
def linkLosesWrong : ChangeSpec := { name := "linkLoses", fn := fun _ => fun
  | [d1, d2, d3] => { results := [.lit (.bool false)], args := [d1, d2, d3] }
  | _ => none }
def LinkLosesWrongFalsely : Prop := linkLosesRow.holds Try.pinned (OpenSpec.ofChange linkLosesWrong)

/- THE SECOND FORM. 'bulk': how many values and letters a reading holds, each counted each time it is reached (what is shared counts as often as it is met; a slice's spare places count too). A statement '..UptoSaid' is the law's where the arguments, and the package variables that the reading takes, are together of bulk at most 1048576: NARROWER than '..Said'. Prove '..Said' where nothing that the law and all that it calls make is longer than what came in: it says more and counts as full. Else prove '..UptoSaid'. A law counts once. -/
mutual
def uptoBulk {H : Type} : DataW H → Nat
  | .lit (.string bytes) => bytes.length + 1
  | .lit _ => 1
  | .nil => 1
  | .ptr d => uptoBulk d + 1
  | .slice elems spare => uptoBulkAll elems + uptoBulkAll spare + 1
  | .agg parts => uptoBulkAll parts + 1
  | .iface _ d => uptoBulk d + 1
  | .map entries => uptoBulkEntries entries + 1
  | .held _ => 1
def uptoBulkAll {H : Type} : List (DataW H) → Nat
  | [] => 0
  | d :: r => uptoBulk d + uptoBulkAll r
def uptoBulkEntries {H : Type} : List (Lit × DataW H) → Nat
  | [] => 0
  | x :: r => uptoBulkEntry x + uptoBulkEntries r
def uptoBulkEntry {H : Type} : Lit × DataW H → Nat
  | (.string bytes, d) => bytes.length + uptoBulk d + 1
  | (_, d) => uptoBulk d + 1
 end
def uptoSmall : (H : Type) → List (DataW H) → Bool := fun _ ds => decide (uptoBulkAll ds ≤ 1048576)
def OpenSpec.upto (s : _root_.Go.ChangeSpec) : _root_.Go.OpenSpec := { _root_.Go.OpenSpec.ofChange s with cond := some uptoSmall }

/-- 'flywheellaw30.LinkOrder', WHERE WHAT IT READS IS OF BULK AT MOST 1048576: true; the input reads as it did. -/
def linkOrderUptoRow : OpenClaim := { program := "ytaghgjmcjmjfiaa", sum := "fbfc77303322b0128a05b6004ea32a3f6158b7b4bf2e8c1daa17cee6f7f93c33", func := "flywheel/flywheellaw30.LinkOrder", spec := "linkOrder", inPlace := ["math/bits.Sub64", "math/bits.Add64"], unfollowed := true, recurses := true, named := ["math/bits.divideError", "math/bits.overflowError"], apart := false, narrowed := true }
def LinkOrderUptoSaid : Prop := linkOrderUptoRow.holds Try.pinned (OpenSpec.upto linkOrderSpec)

/-- 'flywheellaw30.LinkWaits', WHERE WHAT IT READS IS OF BULK AT MOST 1048576: true; the input reads as it did. -/
def linkWaitsUptoRow : OpenClaim := { program := "ytaghgjmcjmjfiaa", sum := "fbfc77303322b0128a05b6004ea32a3f6158b7b4bf2e8c1daa17cee6f7f93c33", func := "flywheel/flywheellaw30.LinkWaits", spec := "linkWaits", inPlace := ["math/bits.Sub64", "math/bits.Add64"], unfollowed := true, recurses := true, named := ["math/bits.divideError", "math/bits.overflowError"], apart := false, narrowed := true }
def LinkWaitsUptoSaid : Prop := linkWaitsUptoRow.holds Try.pinned (OpenSpec.upto linkWaitsSpec)

/-- 'flywheellaw30.LinkNone', WHERE WHAT IT READS IS OF BULK AT MOST 1048576: true; the input reads as it did. -/
def linkNoneUptoRow : OpenClaim := { program := "ytaghgjmcjmjfiaa", sum := "fbfc77303322b0128a05b6004ea32a3f6158b7b4bf2e8c1daa17cee6f7f93c33", func := "flywheel/flywheellaw30.LinkNone", spec := "linkNone", inPlace := ["math/bits.Add64", "math/bits.Sub64"], unfollowed := true, recurses := true, named := ["math/bits.divideError", "math/bits.overflowError"], apart := false, narrowed := true }
def LinkNoneUptoSaid : Prop := linkNoneUptoRow.holds Try.pinned (OpenSpec.upto linkNoneSpec)

/-- 'flywheellaw30.LinkSteady', WHERE WHAT IT READS IS OF BULK AT MOST 1048576: true; the input reads as it did. -/
def linkSteadyUptoRow : OpenClaim := { program := "ytaghgjmcjmjfiaa", sum := "fbfc77303322b0128a05b6004ea32a3f6158b7b4bf2e8c1daa17cee6f7f93c33", func := "flywheel/flywheellaw30.LinkSteady", spec := "linkSteady", inPlace := ["math/bits.Sub64", "math/bits.Add64"], unfollowed := true, recurses := true, named := ["math/bits.divideError", "math/bits.overflowError"], apart := false, narrowed := true }
def LinkSteadyUptoSaid : Prop := linkSteadyUptoRow.holds Try.pinned (OpenSpec.upto linkSteadySpec)

/-- 'flywheellaw30.LinkLoses', WHERE WHAT IT READS IS OF BULK AT MOST 1048576: true; the input reads as it did. -/
def linkLosesUptoRow : OpenClaim := { program := "ytaghgjmcjmjfiaa", sum := "fbfc77303322b0128a05b6004ea32a3f6158b7b4bf2e8c1daa17cee6f7f93c33", func := "flywheel/flywheellaw30.LinkLoses", spec := "linkLoses", inPlace := ["math/bits.Sub64", "math/bits.Add64"], unfollowed := true, recurses := true, named := ["math/bits.divideError", "math/bits.overflowError"], apart := false, narrowed := true }
def LinkLosesUptoSaid : Prop := linkLosesUptoRow.holds Try.pinned (OpenSpec.upto linkLosesSpec)

end Rows
end Go.Proofs.Ytaghgjmcjmjfiaa
