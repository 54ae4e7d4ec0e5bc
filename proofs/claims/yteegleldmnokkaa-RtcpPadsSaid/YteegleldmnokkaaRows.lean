/-
  No cell of these rows narrows 'for every input' (looked for: loops, veiled, ifaces, maps, wideKeys, modest, calm, conditions, laid).
  DERIVED. THE GIVEN ROWS OF THIS SEAT. 5 by the template 'for every input the law returns true; each argument reads behind the call as it read before'; 0 by the template 'total and deterministic' (their statements: YteegleldmnokkaaTotals.lean).
  GIVEN WITH THE SEED: the statements are not yours to turn. If you find one false, say at which input.
  Laid BY PROGRAM, IN A SANDBOX (cutbox-rows.mjs): the forced cells as the released guide's own fill.sh prints them over the translation 442201b1b1d56cce… (all of the seat's roots in one cut). By AI agents, Wed Nov 11 2026. No macro, syntax, notation, axiom, sorry.
-/
import Derived.Test.YteegleldmnokkaaChecked
import GoSem.Claim
import GoSem.ClaimJoined
import GoSem.ClaimMapViews
import Derived.JoinedTies
import Derived.KernelRfl
namespace Go.Proofs.Yteegleldmnokkaa
/- THE CELL 'sum', in the pinned program and in every row, IS THE sha256 OF THE DUMP (.gsa) THAT YteegleldmnokkaaProg.lean LOADS. Nothing in Lean hashes anything: it is a label: what it is worth is what the hold of that sum in a sandbox is worth. -/
noncomputable def Try.pinned : Pinned := { name := "yteegleldmnokkaa", sum := "442201b1b1d56cce4906013d34a457e4b82aae1ed356ac8a79288d8e952ce24a", checked := Try.checked }
namespace Rows
def none {H : Type} : Left H := { results := [], args := [] }

/-- 'flywheellaw08.RtcpJoins': WHATEVER THE INPUT: true; the input reads as it did. -/
def rtcpJoinsSpec : ChangeSpec := { name := "rtcpJoins", fn := fun _ => fun
  | [d] => { results := [.lit (.bool true)], args := [d] }
  | _ => none }
def rtcpJoinsRow : OpenClaim := { program := "yteegleldmnokkaa", sum := "442201b1b1d56cce4906013d34a457e4b82aae1ed356ac8a79288d8e952ce24a", func := "flywheel/flywheellaw08.RtcpJoins", spec := "rtcpJoins", inPlace := ["internal/abi.NoEscape"], unfollowed := true, recurses := true, apart := false }
def RtcpJoinsSaid : Prop := rtcpJoinsRow.holds Try.pinned (OpenSpec.ofChange rtcpJoinsSpec)

/-- ITS FALSE NEIGHBOUR: 'it returns false'. Refute it at one input. -/
def rtcpJoinsWrong : ChangeSpec := { name := "rtcpJoins", fn := fun _ => fun
  | [d] => { results := [.lit (.bool false)], args := [d] }
  | _ => none }
def RtcpJoinsWrongFalsely : Prop := rtcpJoinsRow.holds Try.pinned (OpenSpec.ofChange rtcpJoinsWrong)

/-- 'flywheellaw08.RtcpSplits': WHATEVER THE INPUT: true; the input reads as it did. -/
def rtcpSplitsSpec : ChangeSpec := { name := "rtcpSplits", fn := fun _ => fun
  | [d] => { results := [.lit (.bool true)], args := [d] }
  | _ => none }
def rtcpSplitsRow : OpenClaim := { program := "yteegleldmnokkaa", sum := "442201b1b1d56cce4906013d34a457e4b82aae1ed356ac8a79288d8e952ce24a", func := "flywheel/flywheellaw08.RtcpSplits", spec := "rtcpSplits", inPlace := ["internal/abi.NoEscape"], unfollowed := true, recurses := true, apart := false }
def RtcpSplitsSaid : Prop := rtcpSplitsRow.holds Try.pinned (OpenSpec.ofChange rtcpSplitsSpec)

/-- ITS FALSE NEIGHBOUR: 'it returns false'. Refute it at one input. -/
def rtcpSplitsWrong : ChangeSpec := { name := "rtcpSplits", fn := fun _ => fun
  | [d] => { results := [.lit (.bool false)], args := [d] }
  | _ => none }
def RtcpSplitsWrongFalsely : Prop := rtcpSplitsRow.holds Try.pinned (OpenSpec.ofChange rtcpSplitsWrong)

/-- 'flywheellaw08.RtcpBack': WHATEVER THE INPUT: true; the input reads as it did. -/
def rtcpBackSpec : ChangeSpec := { name := "rtcpBack", fn := fun _ => fun
  | [d1, d2] => { results := [.lit (.bool true)], args := [d1, d2] }
  | _ => none }
def rtcpBackRow : OpenClaim := { program := "yteegleldmnokkaa", sum := "442201b1b1d56cce4906013d34a457e4b82aae1ed356ac8a79288d8e952ce24a", func := "flywheel/flywheellaw08.RtcpBack", spec := "rtcpBack", inPlace := ["internal/abi.NoEscape"], unfollowed := true, recurses := true, apart := false }
def RtcpBackSaid : Prop := rtcpBackRow.holds Try.pinned (OpenSpec.ofChange rtcpBackSpec)

/-- ITS FALSE NEIGHBOUR: 'it returns false'. Refute it at one input. -/
def rtcpBackWrong : ChangeSpec := { name := "rtcpBack", fn := fun _ => fun
  | [d1, d2] => { results := [.lit (.bool false)], args := [d1, d2] }
  | _ => none }
def RtcpBackWrongFalsely : Prop := rtcpBackRow.holds Try.pinned (OpenSpec.ofChange rtcpBackWrong)

/-- 'flywheellaw08.RtcpPads': WHATEVER THE INPUT: true; the input reads as it did. -/
def rtcpPadsSpec : ChangeSpec := { name := "rtcpPads", fn := fun _ => fun
  | [d1, d2] => { results := [.lit (.bool true)], args := [d1, d2] }
  | _ => none }
def rtcpPadsRow : OpenClaim := { program := "yteegleldmnokkaa", sum := "442201b1b1d56cce4906013d34a457e4b82aae1ed356ac8a79288d8e952ce24a", func := "flywheel/flywheellaw08.RtcpPads", spec := "rtcpPads", inPlace := ["internal/abi.NoEscape"], unfollowed := true, recurses := true, apart := false }
def RtcpPadsSaid : Prop := rtcpPadsRow.holds Try.pinned (OpenSpec.ofChange rtcpPadsSpec)

/-- ITS FALSE NEIGHBOUR: 'it returns false'. Refute it at one input. -/
def rtcpPadsWrong : ChangeSpec := { name := "rtcpPads", fn := fun _ => fun
  | [d1, d2] => { results := [.lit (.bool false)], args := [d1, d2] }
  | _ => none }
def RtcpPadsWrongFalsely : Prop := rtcpPadsRow.holds Try.pinned (OpenSpec.ofChange rtcpPadsWrong)

/-- 'flywheellaw08.RtcpWhole': WHATEVER THE INPUT: true; the input reads as it did. -/
def rtcpWholeSpec : ChangeSpec := { name := "rtcpWhole", fn := fun _ => fun
  | [d1, d2] => { results := [.lit (.bool true)], args := [d1, d2] }
  | _ => none }
def rtcpWholeRow : OpenClaim := { program := "yteegleldmnokkaa", sum := "442201b1b1d56cce4906013d34a457e4b82aae1ed356ac8a79288d8e952ce24a", func := "flywheel/flywheellaw08.RtcpWhole", spec := "rtcpWhole", inPlace := ["internal/abi.NoEscape"], unfollowed := true, recurses := true, apart := false }
def RtcpWholeSaid : Prop := rtcpWholeRow.holds Try.pinned (OpenSpec.ofChange rtcpWholeSpec)

/-- ITS FALSE NEIGHBOUR: 'it returns false'. Refute it at one input. -/
def rtcpWholeWrong : ChangeSpec := { name := "rtcpWhole", fn := fun _ => fun
  | [d1, d2] => { results := [.lit (.bool false)], args := [d1, d2] }
  | _ => none }
def RtcpWholeWrongFalsely : Prop := rtcpWholeRow.holds Try.pinned (OpenSpec.ofChange rtcpWholeWrong)

/- THE SECOND FORM. 'bulk': how many values and letters a reading holds, each counted each time it is reached (what is shared counts as often as it is met; a slice's spare places count too). A statement '..UptoSaid' is the law's where the arguments, and the package variables that the reading takes, are together of bulk at most 1048576: NARROWER than '..Said'. Prove '..Said' where nothing that the law and all that it calls make is longer than what came in: it says more and counts as full. Else prove '..UptoSaid'. A law counts once. -/
mutual
def uptoBulk {H : Type} : DataW H → Nat
  | .lit (.string bytes) => bytes.length + 1
  | .lit _ => 1
  | .nil => 1
  | .ptr d => uptoBulk d + 1
  | .slice elems spare => uptoBulkAll elems + uptoBulkAll spare + 1
  | .agg parts => uptoBulkAll parts + 1
  | .iface _ d => uptoBulk d + 1
  | .map entries => uptoBulkEntries entries + 1
  | .held _ => 1
def uptoBulkAll {H : Type} : List (DataW H) → Nat
  | [] => 0
  | d :: r => uptoBulk d + uptoBulkAll r
def uptoBulkEntries {H : Type} : List (Lit × DataW H) → Nat
  | [] => 0
  | x :: r => uptoBulkEntry x + uptoBulkEntries r
def uptoBulkEntry {H : Type} : Lit × DataW H → Nat
  | (.string bytes, d) => bytes.length + uptoBulk d + 1
  | (_, d) => uptoBulk d + 1
 end
def uptoSmall : (H : Type) → List (DataW H) → Bool := fun _ ds => decide (uptoBulkAll ds ≤ 1048576)
def OpenSpec.upto (s : _root_.Go.ChangeSpec) : _root_.Go.OpenSpec := { _root_.Go.OpenSpec.ofChange s with cond := some uptoSmall }

/-- 'flywheellaw08.RtcpJoins', WHERE WHAT IT READS IS OF BULK AT MOST 1048576: true; the input reads as it did. -/
def rtcpJoinsUptoRow : OpenClaim := { program := "yteegleldmnokkaa", sum := "442201b1b1d56cce4906013d34a457e4b82aae1ed356ac8a79288d8e952ce24a", func := "flywheel/flywheellaw08.RtcpJoins", spec := "rtcpJoins", inPlace := ["internal/abi.NoEscape"], unfollowed := true, recurses := true, apart := false, narrowed := true }
def RtcpJoinsUptoSaid : Prop := rtcpJoinsUptoRow.holds Try.pinned (OpenSpec.upto rtcpJoinsSpec)

/-- 'flywheellaw08.RtcpSplits', WHERE WHAT IT READS IS OF BULK AT MOST 1048576: true; the input reads as it did. -/
def rtcpSplitsUptoRow : OpenClaim := { program := "yteegleldmnokkaa", sum := "442201b1b1d56cce4906013d34a457e4b82aae1ed356ac8a79288d8e952ce24a", func := "flywheel/flywheellaw08.RtcpSplits", spec := "rtcpSplits", inPlace := ["internal/abi.NoEscape"], unfollowed := true, recurses := true, apart := false, narrowed := true }
def RtcpSplitsUptoSaid : Prop := rtcpSplitsUptoRow.holds Try.pinned (OpenSpec.upto rtcpSplitsSpec)

/-- 'flywheellaw08.RtcpBack', WHERE WHAT IT READS IS OF BULK AT MOST 1048576: true; the input reads as it did. -/
def rtcpBackUptoRow : OpenClaim := { program := "yteegleldmnokkaa", sum := "442201b1b1d56cce4906013d34a457e4b82aae1ed356ac8a79288d8e952ce24a", func := "flywheel/flywheellaw08.RtcpBack", spec := "rtcpBack", inPlace := ["internal/abi.NoEscape"], unfollowed := true, recurses := true, apart := false, narrowed := true }
def RtcpBackUptoSaid : Prop := rtcpBackUptoRow.holds Try.pinned (OpenSpec.upto rtcpBackSpec)

/-- 'flywheellaw08.RtcpPads', WHERE WHAT IT READS IS OF BULK AT MOST 1048576: true; the input reads as it did. -/
def rtcpPadsUptoRow : OpenClaim := { program := "yteegleldmnokkaa", sum := "442201b1b1d56cce4906013d34a457e4b82aae1ed356ac8a79288d8e952ce24a", func := "flywheel/flywheellaw08.RtcpPads", spec := "rtcpPads", inPlace := ["internal/abi.NoEscape"], unfollowed := true, recurses := true, apart := false, narrowed := true }
def RtcpPadsUptoSaid : Prop := rtcpPadsUptoRow.holds Try.pinned (OpenSpec.upto rtcpPadsSpec)

/-- 'flywheellaw08.RtcpWhole', WHERE WHAT IT READS IS OF BULK AT MOST 1048576: true; the input reads as it did. -/
def rtcpWholeUptoRow : OpenClaim := { program := "yteegleldmnokkaa", sum := "442201b1b1d56cce4906013d34a457e4b82aae1ed356ac8a79288d8e952ce24a", func := "flywheel/flywheellaw08.RtcpWhole", spec := "rtcpWhole", inPlace := ["internal/abi.NoEscape"], unfollowed := true, recurses := true, apart := false, narrowed := true }
def RtcpWholeUptoSaid : Prop := rtcpWholeUptoRow.holds Try.pinned (OpenSpec.upto rtcpWholeSpec)

end Rows
end Go.Proofs.Yteegleldmnokkaa
