/-
  No cell of these rows narrows 'for every input' (looked for: loops, veiled, ifaces, maps, wideKeys, modest, calm, conditions, laid).
  DERIVED. THE GIVEN ROWS OF THIS SEAT. 5 by the template 'for every input the law returns true; each argument reads behind the call as it read before'; 0 by the template 'total and deterministic' (their statements: YthlgndgacmalaaaTotals.lean).
  GIVEN WITH THE SEED: the statements are not yours to turn. If you find one false, say at which input.
  Laid BY PROGRAM, IN A SANDBOX (cutbox-rows.mjs): the forced cells as the released guide's own fill.sh prints them over the translation 405d590aed86658e… (all of the seat's roots in one cut). By AI agents, Wed Nov 11 2026. No macro, syntax, notation, axiom, sorry.
-/
import Derived.Test.YthlgndgacmalaaaChecked
import GoSem.Claim
import GoSem.ClaimJoined
import GoSem.ClaimMapViews
import Derived.JoinedTies
import Derived.KernelRfl
namespace Go.Proofs.Ythlgndgacmalaaa
/- THE CELL 'sum', in the pinned program and in every row, IS THE sha256 OF THE DUMP (.gsa) THAT YthlgndgacmalaaaProg.lean LOADS. Nothing in Lean hashes anything: it is a label: what it is worth is what the hold of that sum in a sandbox is worth. -/
noncomputable def Try.pinned : Pinned := { name := "ythlgndgacmalaaa", sum := "405d590aed86658ec4779a2947caeb701170cc8ae9aad045a956ec93c61f222f", checked := Try.checked }
namespace Rows
def none {H : Type} : Left H := { results := [], args := [] }

/-- 'flywheellaw24.ScreamCuts': WHATEVER THE INPUT: true; the input reads as it did. -/
def screamCutsSpec : ChangeSpec := { name := "screamCuts", fn := fun _ => fun
  | [d1, d2, d3] => { results := [.lit (.bool true)], args := [d1, d2, d3] }
  | _ => none }
def screamCutsRow : OpenClaim := { program := "ythlgndgacmalaaa", sum := "405d590aed86658ec4779a2947caeb701170cc8ae9aad045a956ec93c61f222f", func := "flywheel/flywheellaw24.ScreamCuts", spec := "screamCuts", inPlace := ["math/bits.Add64"], unfollowed := true, recurses := true, named := ["math/bits.divideError", "math/bits.overflowError"], apart := false }
def ScreamCutsSaid : Prop := screamCutsRow.holds Try.pinned (OpenSpec.ofChange screamCutsSpec)

/-- ITS FALSE NEIGHBOUR: 'it returns false'. Refute it at one input. -/
def screamCutsWrong : ChangeSpec := { name := "screamCuts", fn := fun _ => fun
  | [d1, d2, d3] => { results := [.lit (.bool false)], args := [d1, d2, d3] }
  | _ => none }
def ScreamCutsWrongFalsely : Prop := screamCutsRow.holds Try.pinned (OpenSpec.ofChange screamCutsWrong)

/-- 'flywheellaw24.ScreamGrows': WHATEVER THE INPUT: true; the input reads as it did. -/
def screamGrowsSpec : ChangeSpec := { name := "screamGrows", fn := fun _ => fun
  | [d1, d2, d3] => { results := [.lit (.bool true)], args := [d1, d2, d3] }
  | _ => none }
def screamGrowsRow : OpenClaim := { program := "ythlgndgacmalaaa", sum := "405d590aed86658ec4779a2947caeb701170cc8ae9aad045a956ec93c61f222f", func := "flywheel/flywheellaw24.ScreamGrows", spec := "screamGrows", inPlace := ["math/bits.Add64"], unfollowed := true, recurses := true, named := ["math/bits.divideError", "math/bits.overflowError"], apart := false }
def ScreamGrowsSaid : Prop := screamGrowsRow.holds Try.pinned (OpenSpec.ofChange screamGrowsSpec)

/-- ITS FALSE NEIGHBOUR: 'it returns false'. Refute it at one input. -/
def screamGrowsWrong : ChangeSpec := { name := "screamGrows", fn := fun _ => fun
  | [d1, d2, d3] => { results := [.lit (.bool false)], args := [d1, d2, d3] }
  | _ => none }
def ScreamGrowsWrongFalsely : Prop := screamGrowsRow.holds Try.pinned (OpenSpec.ofChange screamGrowsWrong)

/-- 'flywheellaw24.ScreamBounds': WHATEVER THE INPUT: true; the input reads as it did. -/
def screamBoundsSpec : ChangeSpec := { name := "screamBounds", fn := fun _ => fun
  | [d1, d2] => { results := [.lit (.bool true)], args := [d1, d2] }
  | _ => none }
def screamBoundsRow : OpenClaim := { program := "ythlgndgacmalaaa", sum := "405d590aed86658ec4779a2947caeb701170cc8ae9aad045a956ec93c61f222f", func := "flywheel/flywheellaw24.ScreamBounds", spec := "screamBounds", inPlace := ["math/bits.Add64"], unfollowed := true, recurses := true, named := ["math/bits.divideError", "math/bits.overflowError"], apart := false }
def ScreamBoundsSaid : Prop := screamBoundsRow.holds Try.pinned (OpenSpec.ofChange screamBoundsSpec)

/-- ITS FALSE NEIGHBOUR: 'it returns false'. Refute it at one input. -/
def screamBoundsWrong : ChangeSpec := { name := "screamBounds", fn := fun _ => fun
  | [d1, d2] => { results := [.lit (.bool false)], args := [d1, d2] }
  | _ => none }
def ScreamBoundsWrongFalsely : Prop := screamBoundsRow.holds Try.pinned (OpenSpec.ofChange screamBoundsWrong)

/-- 'flywheellaw24.ScreamPlays': WHATEVER THE INPUT: true; the input reads as it did. -/
def screamPlaysSpec : ChangeSpec := { name := "screamPlays", fn := fun _ => fun
  | [d1, d2] => { results := [.lit (.bool true)], args := [d1, d2] }
  | _ => none }
def screamPlaysRow : OpenClaim := { program := "ythlgndgacmalaaa", sum := "405d590aed86658ec4779a2947caeb701170cc8ae9aad045a956ec93c61f222f", func := "flywheel/flywheellaw24.ScreamPlays", spec := "screamPlays", inPlace := ["math/bits.Add64"], unfollowed := true, recurses := true, named := ["math/bits.divideError", "math/bits.overflowError"], apart := false }
def ScreamPlaysSaid : Prop := screamPlaysRow.holds Try.pinned (OpenSpec.ofChange screamPlaysSpec)

/-- ITS FALSE NEIGHBOUR: 'it returns false'. Refute it at one input. -/
def screamPlaysWrong : ChangeSpec := { name := "screamPlays", fn := fun _ => fun
  | [d1, d2] => { results := [.lit (.bool false)], args := [d1, d2] }
  | _ => none }
def ScreamPlaysWrongFalsely : Prop := screamPlaysRow.holds Try.pinned (OpenSpec.ofChange screamPlaysWrong)

/-- 'flywheellaw24.ScreamNone': WHATEVER THE INPUT: true; the input reads as it did. -/
def screamNoneSpec : ChangeSpec := { name := "screamNone", fn := fun _ => fun
  | [d] => { results := [.lit (.bool true)], args := [d] }
  | _ => none }
def screamNoneRow : OpenClaim := { program := "ythlgndgacmalaaa", sum := "405d590aed86658ec4779a2947caeb701170cc8ae9aad045a956ec93c61f222f", func := "flywheel/flywheellaw24.ScreamNone", spec := "screamNone", inPlace := ["math/bits.Add64"], unfollowed := true, recurses := true, named := ["math/bits.divideError", "math/bits.overflowError"], apart := false }
def ScreamNoneSaid : Prop := screamNoneRow.holds Try.pinned (OpenSpec.ofChange screamNoneSpec)

/-- ITS FALSE NEIGHBOUR: 'it returns false'. Refute it at one input. -/
def screamNoneWrong : ChangeSpec := { name := "screamNone", fn := fun _ => fun
  | [d] => { results := [.lit (.bool false)], args := [d] }
  | _ => none }
def ScreamNoneWrongFalsely : Prop := screamNoneRow.holds Try.pinned (OpenSpec.ofChange screamNoneWrong)

/- THE SECOND FORM. 'bulk': how many values and letters a reading holds, each counted each time it is reached (what is shared counts as often as it is met; a slice's spare places count too). A statement '..UptoSaid' is the law's where the arguments, and the package variables that the reading takes, are together of bulk at most 1048576: NARROWER than '..Said'. Prove '..Said' where nothing that the law and all that it calls make is longer than what came in: it says more and counts as full. Else prove '..UptoSaid'. A law counts once. -/
mutual
def uptoBulk {H : Type} : DataW H → Nat
  | .lit (.string bytes) => bytes.length + 1
  | .lit _ => 1
  | .nil => 1
  | .ptr d => uptoBulk d + 1
  | .slice elems spare => uptoBulkAll elems + uptoBulkAll spare + 1
  | .agg parts => uptoBulkAll parts + 1
  | .iface _ d => uptoBulk d + 1
  | .map entries => uptoBulkEntries entries + 1
  | .held _ => 1
def uptoBulkAll {H : Type} : List (DataW H) → Nat
  | [] => 0
  | d :: r => uptoBulk d + uptoBulkAll r
def uptoBulkEntries {H : Type} : List (Lit × DataW H) → Nat
  | [] => 0
  | x :: r => uptoBulkEntry x + uptoBulkEntries r
def uptoBulkEntry {H : Type} : Lit × DataW H → Nat
  | (.string bytes, d) => bytes.length + uptoBulk d + 1
  | (_, d) => uptoBulk d + 1
 end
def uptoSmall : (H : Type) → List (DataW H) → Bool := fun _ ds => decide (uptoBulkAll ds ≤ 1048576)
def OpenSpec.upto (s : _root_.Go.ChangeSpec) : _root_.Go.OpenSpec := { _root_.Go.OpenSpec.ofChange s with cond := some uptoSmall }

/-- 'flywheellaw24.ScreamCuts', WHERE WHAT IT READS IS OF BULK AT MOST 1048576: true; the input reads as it did. -/
def screamCutsUptoRow : OpenClaim := { program := "ythlgndgacmalaaa", sum := "405d590aed86658ec4779a2947caeb701170cc8ae9aad045a956ec93c61f222f", func := "flywheel/flywheellaw24.ScreamCuts", spec := "screamCuts", inPlace := ["math/bits.Add64"], unfollowed := true, recurses := true, named := ["math/bits.divideError", "math/bits.overflowError"], apart := false, narrowed := true }
def ScreamCutsUptoSaid : Prop := screamCutsUptoRow.holds Try.pinned (OpenSpec.upto screamCutsSpec)

/-- 'flywheellaw24.ScreamGrows', WHERE WHAT IT READS IS OF BULK AT MOST 1048576: true; the input reads as it did. -/
def screamGrowsUptoRow : OpenClaim := { program := "ythlgndgacmalaaa", sum := "405d590aed86658ec4779a2947caeb701170cc8ae9aad045a956ec93c61f222f", func := "flywheel/flywheellaw24.ScreamGrows", spec := "screamGrows", inPlace := ["math/bits.Add64"], unfollowed := true, recurses := true, named := ["math/bits.divideError", "math/bits.overflowError"], apart := false, narrowed := true }
def ScreamGrowsUptoSaid : Prop := screamGrowsUptoRow.holds Try.pinned (OpenSpec.upto screamGrowsSpec)

/-- 'flywheellaw24.ScreamBounds', WHERE WHAT IT READS IS OF BULK AT MOST 1048576: true; the input reads as it did. -/
def screamBoundsUptoRow : OpenClaim := { program := "ythlgndgacmalaaa", sum := "405d590aed86658ec4779a2947caeb701170cc8ae9aad045a956ec93c61f222f", func := "flywheel/flywheellaw24.ScreamBounds", spec := "screamBounds", inPlace := ["math/bits.Add64"], unfollowed := true, recurses := true, named := ["math/bits.divideError", "math/bits.overflowError"], apart := false, narrowed := true }
def ScreamBoundsUptoSaid : Prop := screamBoundsUptoRow.holds Try.pinned (OpenSpec.upto screamBoundsSpec)

/-- 'flywheellaw24.ScreamPlays', WHERE WHAT IT READS IS OF BULK AT MOST 1048576: true; the input reads as it did. -/
def screamPlaysUptoRow : OpenClaim := { program := "ythlgndgacmalaaa", sum := "405d590aed86658ec4779a2947caeb701170cc8ae9aad045a956ec93c61f222f", func := "flywheel/flywheellaw24.ScreamPlays", spec := "screamPlays", inPlace := ["math/bits.Add64"], unfollowed := true, recurses := true, named := ["math/bits.divideError", "math/bits.overflowError"], apart := false, narrowed := true }
def ScreamPlaysUptoSaid : Prop := screamPlaysUptoRow.holds Try.pinned (OpenSpec.upto screamPlaysSpec)

/-- 'flywheellaw24.ScreamNone', WHERE WHAT IT READS IS OF BULK AT MOST 1048576: true; the input reads as it did. -/
def screamNoneUptoRow : OpenClaim := { program := "ythlgndgacmalaaa", sum := "405d590aed86658ec4779a2947caeb701170cc8ae9aad045a956ec93c61f222f", func := "flywheel/flywheellaw24.ScreamNone", spec := "screamNone", inPlace := ["math/bits.Add64"], unfollowed := true, recurses := true, named := ["math/bits.divideError", "math/bits.overflowError"], apart := false, narrowed := true }
def ScreamNoneUptoSaid : Prop := screamNoneUptoRow.holds Try.pinned (OpenSpec.upto screamNoneSpec)

end Rows
end Go.Proofs.Ythlgndgacmalaaa
