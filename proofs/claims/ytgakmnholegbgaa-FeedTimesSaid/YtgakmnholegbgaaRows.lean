/-
  No cell of these rows narrows 'for every input' (looked for: loops, veiled, ifaces, maps, wideKeys, modest, calm, conditions, laid).
  DERIVED. THE GIVEN ROWS OF THIS SEAT. 4 by the template 'for every input the law returns true; each argument reads behind the call as it read before'; 0 by the template 'total and deterministic' (their statements: YtgakmnholegbgaaTotals.lean).
  GIVEN WITH THE SEED: the statements are not yours to turn. If you find one false, say at which input.
  Laid BY PROGRAM, IN A SANDBOX (cutbox-rows.mjs): the forced cells as the released guide's own fill.sh prints them over the translation 4717b15133da86f0… (all of the seat's roots in one cut). By AI agents, Wed Nov 11 2026. No macro, syntax, notation, axiom, sorry.
-/
import Derived.Test.YtgakmnholegbgaaChecked
import GoSem.Claim
import GoSem.ClaimJoined
import GoSem.ClaimMapViews
import Derived.JoinedTies
import Derived.KernelRfl
namespace Go.Proofs.Ytgakmnholegbgaa
/- THE CELL 'sum', in the pinned program and in every row, IS THE sha256 OF THE DUMP (.gsa) THAT YtgakmnholegbgaaProg.lean LOADS. Nothing in Lean hashes anything: it is a label: what it is worth is what the hold of that sum in a sandbox is worth. -/
noncomputable def Try.pinned : Pinned := { name := "ytgakmnholegbgaa", sum := "4717b15133da86f004ad3a1296ccb66a67df02a3cd5cbb6110bf9ebe2acb9dd9", checked := Try.checked }
namespace Rows
def none {H : Type} : Left H := { results := [], args := [] }

/-- 'flywheellaw12.FeedReads': WHATEVER THE INPUT: true; the input reads as it did. -/
def feedReadsSpec : ChangeSpec := { name := "feedReads", fn := fun _ => fun
  | [d1, d2] => { results := [.lit (.bool true)], args := [d1, d2] }
  | _ => none }
def feedReadsRow : OpenClaim := { program := "ytgakmnholegbgaa", sum := "4717b15133da86f004ad3a1296ccb66a67df02a3cd5cbb6110bf9ebe2acb9dd9", func := "flywheel/flywheellaw12.FeedReads", spec := "feedReads", inPlace := ["math/bits.Add64"], unfollowed := true, recurses := true, named := ["math/bits.divideError", "math/bits.overflowError"], apart := false }
def FeedReadsSaid : Prop := feedReadsRow.holds Try.pinned (OpenSpec.ofChange feedReadsSpec)

/-- ITS FALSE NEIGHBOUR: 'it returns false'. Refute it at one input. -/
def feedReadsWrong : ChangeSpec := { name := "feedReads", fn := fun _ => fun
  | [d1, d2] => { results := [.lit (.bool false)], args := [d1, d2] }
  | _ => none }
def FeedReadsWrongFalsely : Prop := feedReadsRow.holds Try.pinned (OpenSpec.ofChange feedReadsWrong)

/-- 'flywheellaw12.FeedJoins': WHATEVER THE INPUT: true; the input reads as it did. -/
def feedJoinsSpec : ChangeSpec := { name := "feedJoins", fn := fun _ => fun
  | [d1, d2, d3] => { results := [.lit (.bool true)], args := [d1, d2, d3] }
  | _ => none }
def feedJoinsRow : OpenClaim := { program := "ytgakmnholegbgaa", sum := "4717b15133da86f004ad3a1296ccb66a67df02a3cd5cbb6110bf9ebe2acb9dd9", func := "flywheel/flywheellaw12.FeedJoins", spec := "feedJoins", inPlace := ["math/bits.Add64"], unfollowed := true, recurses := true, named := ["math/bits.divideError", "math/bits.overflowError"], apart := false }
def FeedJoinsSaid : Prop := feedJoinsRow.holds Try.pinned (OpenSpec.ofChange feedJoinsSpec)

/-- ITS FALSE NEIGHBOUR: 'it returns false'. Refute it at one input. -/
def feedJoinsWrong : ChangeSpec := { name := "feedJoins", fn := fun _ => fun
  | [d1, d2, d3] => { results := [.lit (.bool false)], args := [d1, d2, d3] }
  | _ => none }
def FeedJoinsWrongFalsely : Prop := feedJoinsRow.holds Try.pinned (OpenSpec.ofChange feedJoinsWrong)

/-- 'flywheellaw12.FeedTimes': WHATEVER THE INPUT: true; the input reads as it did. -/
def feedTimesSpec : ChangeSpec := { name := "feedTimes", fn := fun _ => fun
  | [d1, d2, d3] => { results := [.lit (.bool true)], args := [d1, d2, d3] }
  | _ => none }
def feedTimesRow : OpenClaim := { program := "ytgakmnholegbgaa", sum := "4717b15133da86f004ad3a1296ccb66a67df02a3cd5cbb6110bf9ebe2acb9dd9", func := "flywheel/flywheellaw12.FeedTimes", spec := "feedTimes", inPlace := ["math/bits.Add64"], unfollowed := true, recurses := true, named := ["math/bits.divideError", "math/bits.overflowError"], apart := false }
def FeedTimesSaid : Prop := feedTimesRow.holds Try.pinned (OpenSpec.ofChange feedTimesSpec)

/-- ITS FALSE NEIGHBOUR: 'it returns false'. Refute it at one input. -/
def feedTimesWrong : ChangeSpec := { name := "feedTimes", fn := fun _ => fun
  | [d1, d2, d3] => { results := [.lit (.bool false)], args := [d1, d2, d3] }
  | _ => none }
def FeedTimesWrongFalsely : Prop := feedTimesRow.holds Try.pinned (OpenSpec.ofChange feedTimesWrong)

/-- 'flywheellaw12.FeedOthers': WHATEVER THE INPUT: true; the input reads as it did. -/
def feedOthersSpec : ChangeSpec := { name := "feedOthers", fn := fun _ => fun
  | [d1, d2, d3] => { results := [.lit (.bool true)], args := [d1, d2, d3] }
  | _ => none }
def feedOthersRow : OpenClaim := { program := "ytgakmnholegbgaa", sum := "4717b15133da86f004ad3a1296ccb66a67df02a3cd5cbb6110bf9ebe2acb9dd9", func := "flywheel/flywheellaw12.FeedOthers", spec := "feedOthers", inPlace := ["math/bits.Add64"], unfollowed := true, recurses := true, named := ["math/bits.divideError", "math/bits.overflowError"], apart := false }
def FeedOthersSaid : Prop := feedOthersRow.holds Try.pinned (OpenSpec.ofChange feedOthersSpec)

/-- ITS FALSE NEIGHBOUR: 'it returns false'. Refute it at one input. -/
def feedOthersWrong : ChangeSpec := { name := "feedOthers", fn := fun _ => fun
  | [d1, d2, d3] => { results := [.lit (.bool false)], args := [d1, d2, d3] }
  | _ => none }
def FeedOthersWrongFalsely : Prop := feedOthersRow.holds Try.pinned (OpenSpec.ofChange feedOthersWrong)

/- THE SECOND FORM. 'bulk': how many values and letters a reading holds, each counted each time it is reached (what is shared counts as often as it is met; a slice's spare places count too). A statement '..UptoSaid' is the law's where the arguments, and the package variables that the reading takes, are together of bulk at most 1048576: NARROWER than '..Said'. Prove '..Said' where nothing that the law and all that it calls make is longer than what came in: it says more and counts as full. Else prove '..UptoSaid'. A law counts once. -/
mutual
def uptoBulk {H : Type} : DataW H → Nat
  | .lit (.string bytes) => bytes.length + 1
  | .lit _ => 1
  | .nil => 1
  | .ptr d => uptoBulk d + 1
  | .slice elems spare => uptoBulkAll elems + uptoBulkAll spare + 1
  | .agg parts => uptoBulkAll parts + 1
  | .iface _ d => uptoBulk d + 1
  | .map entries => uptoBulkEntries entries + 1
  | .held _ => 1
def uptoBulkAll {H : Type} : List (DataW H) → Nat
  | [] => 0
  | d :: r => uptoBulk d + uptoBulkAll r
def uptoBulkEntries {H : Type} : List (Lit × DataW H) → Nat
  | [] => 0
  | x :: r => uptoBulkEntry x + uptoBulkEntries r
def uptoBulkEntry {H : Type} : Lit × DataW H → Nat
  | (.string bytes, d) => bytes.length + uptoBulk d + 1
  | (_, d) => uptoBulk d + 1
 end
def uptoSmall : (H : Type) → List (DataW H) → Bool := fun _ ds => decide (uptoBulkAll ds ≤ 1048576)
def OpenSpec.upto (s : _root_.Go.ChangeSpec) : _root_.Go.OpenSpec := { _root_.Go.OpenSpec.ofChange s with cond := some uptoSmall }

/-- 'flywheellaw12.FeedReads', WHERE WHAT IT READS IS OF BULK AT MOST 1048576: true; the input reads as it did. -/
def feedReadsUptoRow : OpenClaim := { program := "ytgakmnholegbgaa", sum := "4717b15133da86f004ad3a1296ccb66a67df02a3cd5cbb6110bf9ebe2acb9dd9", func := "flywheel/flywheellaw12.FeedReads", spec := "feedReads", inPlace := ["math/bits.Add64"], unfollowed := true, recurses := true, named := ["math/bits.divideError", "math/bits.overflowError"], apart := false, narrowed := true }
def FeedReadsUptoSaid : Prop := feedReadsUptoRow.holds Try.pinned (OpenSpec.upto feedReadsSpec)

/-- 'flywheellaw12.FeedJoins', WHERE WHAT IT READS IS OF BULK AT MOST 1048576: true; the input reads as it did. -/
def feedJoinsUptoRow : OpenClaim := { program := "ytgakmnholegbgaa", sum := "4717b15133da86f004ad3a1296ccb66a67df02a3cd5cbb6110bf9ebe2acb9dd9", func := "flywheel/flywheellaw12.FeedJoins", spec := "feedJoins", inPlace := ["math/bits.Add64"], unfollowed := true, recurses := true, named := ["math/bits.divideError", "math/bits.overflowError"], apart := false, narrowed := true }
def FeedJoinsUptoSaid : Prop := feedJoinsUptoRow.holds Try.pinned (OpenSpec.upto feedJoinsSpec)

/-- 'flywheellaw12.FeedTimes', WHERE WHAT IT READS IS OF BULK AT MOST 1048576: true; the input reads as it did. -/
def feedTimesUptoRow : OpenClaim := { program := "ytgakmnholegbgaa", sum := "4717b15133da86f004ad3a1296ccb66a67df02a3cd5cbb6110bf9ebe2acb9dd9", func := "flywheel/flywheellaw12.FeedTimes", spec := "feedTimes", inPlace := ["math/bits.Add64"], unfollowed := true, recurses := true, named := ["math/bits.divideError", "math/bits.overflowError"], apart := false, narrowed := true }
def FeedTimesUptoSaid : Prop := feedTimesUptoRow.holds Try.pinned (OpenSpec.upto feedTimesSpec)

/-- 'flywheellaw12.FeedOthers', WHERE WHAT IT READS IS OF BULK AT MOST 1048576: true; the input reads as it did. -/
def feedOthersUptoRow : OpenClaim := { program := "ytgakmnholegbgaa", sum := "4717b15133da86f004ad3a1296ccb66a67df02a3cd5cbb6110bf9ebe2acb9dd9", func := "flywheel/flywheellaw12.FeedOthers", spec := "feedOthers", inPlace := ["math/bits.Add64"], unfollowed := true, recurses := true, named := ["math/bits.divideError", "math/bits.overflowError"], apart := false, narrowed := true }
def FeedOthersUptoSaid : Prop := feedOthersUptoRow.holds Try.pinned (OpenSpec.upto feedOthersSpec)

end Rows
end Go.Proofs.Ytgakmnholegbgaa
