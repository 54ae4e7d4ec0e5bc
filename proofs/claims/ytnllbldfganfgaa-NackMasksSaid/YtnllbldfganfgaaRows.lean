/-
  No cell of these rows narrows 'for every input' (looked for: loops, veiled, ifaces, maps, wideKeys, modest, calm, conditions, laid).
  DERIVED. THE GIVEN ROWS OF THIS SEAT. 5 by the template 'for every input the law returns true; each argument reads behind the call as it read before'; 0 by the template 'total and deterministic' (their statements: YtnllbldfganfgaaTotals.lean).
  GIVEN WITH THE SEED: the statements are not yours to turn. If you find one false, say at which input.
  Laid BY PROGRAM, IN A SANDBOX (cutbox-rows.mjs): the forced cells as the released guide's own fill.sh prints them over the translation 9fff93d52192aa44… (all of the seat's roots in one cut). By AI agents, Wed Nov 11 2026. No macro, syntax, notation, axiom, sorry.
-/
import Derived.Test.YtnllbldfganfgaaChecked
import GoSem.Claim
import GoSem.ClaimJoined
import GoSem.ClaimMapViews
import Derived.JoinedTies
import Derived.KernelRfl
namespace Go.Proofs.Ytnllbldfganfgaa
/- THE CELL 'sum', in the pinned program and in every row, IS THE sha256 OF THE DUMP (.gsa) THAT YtnllbldfganfgaaProg.lean LOADS. Nothing in Lean hashes anything: it is a label: what it is worth is what the hold of that sum in a sandbox is worth. -/
noncomputable def Try.pinned : Pinned := { name := "ytnllbldfganfgaa", sum := "9fff93d52192aa44f02fb1f879c18d7e163825dcb5d3b83a458cd9d7135cc756", checked := Try.checked }
namespace Rows
def none {H : Type} : Left H := { results := [], args := [] }

/-- 'flywheellaw11.NackEncodes': WHATEVER THE INPUT: true; the input reads as it did. -/
def nackEncodesSpec : ChangeSpec := { name := "nackEncodes", fn := fun _ => fun
  | [d] => { results := [.lit (.bool true)], args := [d] }
  | _ => none }
def nackEncodesRow : OpenClaim := { program := "ytnllbldfganfgaa", sum := "9fff93d52192aa44f02fb1f879c18d7e163825dcb5d3b83a458cd9d7135cc756", func := "flywheel/flywheellaw11.NackEncodes", spec := "nackEncodes", apart := false }
def NackEncodesSaid : Prop := nackEncodesRow.holds Try.pinned (OpenSpec.ofChange nackEncodesSpec)

/-- ITS FALSE NEIGHBOUR: 'it returns false'. Refute it at one input. -/
def nackEncodesWrong : ChangeSpec := { name := "nackEncodes", fn := fun _ => fun
  | [d] => { results := [.lit (.bool false)], args := [d] }
  | _ => none }
def NackEncodesWrongFalsely : Prop := nackEncodesRow.holds Try.pinned (OpenSpec.ofChange nackEncodesWrong)

/-- 'flywheellaw11.NackDecodes': WHATEVER THE INPUT: true; the input reads as it did. -/
def nackDecodesSpec : ChangeSpec := { name := "nackDecodes", fn := fun _ => fun
  | [d] => { results := [.lit (.bool true)], args := [d] }
  | _ => none }
def nackDecodesRow : OpenClaim := { program := "ytnllbldfganfgaa", sum := "9fff93d52192aa44f02fb1f879c18d7e163825dcb5d3b83a458cd9d7135cc756", func := "flywheel/flywheellaw11.NackDecodes", spec := "nackDecodes", apart := false }
def NackDecodesSaid : Prop := nackDecodesRow.holds Try.pinned (OpenSpec.ofChange nackDecodesSpec)

/-- ITS FALSE NEIGHBOUR: 'it returns false'. Refute it at one input. -/
def nackDecodesWrong : ChangeSpec := { name := "nackDecodes", fn := fun _ => fun
  | [d] => { results := [.lit (.bool false)], args := [d] }
  | _ => none }
def NackDecodesWrongFalsely : Prop := nackDecodesRow.holds Try.pinned (OpenSpec.ofChange nackDecodesWrong)

/-- 'flywheellaw11.NackBack': WHATEVER THE INPUT: true; the input reads as it did. -/
def nackBackSpec : ChangeSpec := { name := "nackBack", fn := fun _ => fun
  | [d1, d2] => { results := [.lit (.bool true)], args := [d1, d2] }
  | _ => none }
def nackBackRow : OpenClaim := { program := "ytnllbldfganfgaa", sum := "9fff93d52192aa44f02fb1f879c18d7e163825dcb5d3b83a458cd9d7135cc756", func := "flywheel/flywheellaw11.NackBack", spec := "nackBack", apart := false }
def NackBackSaid : Prop := nackBackRow.holds Try.pinned (OpenSpec.ofChange nackBackSpec)

/-- ITS FALSE NEIGHBOUR: 'it returns false'. Refute it at one input. -/
def nackBackWrong : ChangeSpec := { name := "nackBack", fn := fun _ => fun
  | [d1, d2] => { results := [.lit (.bool false)], args := [d1, d2] }
  | _ => none }
def NackBackWrongFalsely : Prop := nackBackRow.holds Try.pinned (OpenSpec.ofChange nackBackWrong)

/-- 'flywheellaw11.NackMasks': WHATEVER THE INPUT: true; the input reads as it did. -/
def nackMasksSpec : ChangeSpec := { name := "nackMasks", fn := fun _ => fun
  | [d1, d2] => { results := [.lit (.bool true)], args := [d1, d2] }
  | _ => none }
def nackMasksRow : OpenClaim := { program := "ytnllbldfganfgaa", sum := "9fff93d52192aa44f02fb1f879c18d7e163825dcb5d3b83a458cd9d7135cc756", func := "flywheel/flywheellaw11.NackMasks", spec := "nackMasks", apart := false }
def NackMasksSaid : Prop := nackMasksRow.holds Try.pinned (OpenSpec.ofChange nackMasksSpec)

/-- ITS FALSE NEIGHBOUR: 'it returns false'. Refute it at one input. -/
def nackMasksWrong : ChangeSpec := { name := "nackMasks", fn := fun _ => fun
  | [d1, d2] => { results := [.lit (.bool false)], args := [d1, d2] }
  | _ => none }
def NackMasksWrongFalsely : Prop := nackMasksRow.holds Try.pinned (OpenSpec.ofChange nackMasksWrong)

/-- 'flywheellaw11.NackShort': WHATEVER THE INPUT: true; the input reads as it did. -/
def nackShortSpec : ChangeSpec := { name := "nackShort", fn := fun _ => fun
  | [d1, d2] => { results := [.lit (.bool true)], args := [d1, d2] }
  | _ => none }
def nackShortRow : OpenClaim := { program := "ytnllbldfganfgaa", sum := "9fff93d52192aa44f02fb1f879c18d7e163825dcb5d3b83a458cd9d7135cc756", func := "flywheel/flywheellaw11.NackShort", spec := "nackShort", apart := false }
def NackShortSaid : Prop := nackShortRow.holds Try.pinned (OpenSpec.ofChange nackShortSpec)

/-- ITS FALSE NEIGHBOUR: 'it returns false'. Refute it at one input. -/
def nackShortWrong : ChangeSpec := { name := "nackShort", fn := fun _ => fun
  | [d1, d2] => { results := [.lit (.bool false)], args := [d1, d2] }
  | _ => none }
def NackShortWrongFalsely : Prop := nackShortRow.holds Try.pinned (OpenSpec.ofChange nackShortWrong)

/- THE SECOND FORM. 'bulk': how many values and letters a reading holds, each counted each time it is reached (what is shared counts as often as it is met; a slice's spare places count too). A statement '..UptoSaid' is the law's where the arguments, and the package variables that the reading takes, are together of bulk at most 1048576: NARROWER than '..Said'. Prove '..Said' where nothing that the law and all that it calls make is longer than what came in: it says more and counts as full. Else prove '..UptoSaid'. A law counts once. -/
mutual
def uptoBulk {H : Type} : DataW H → Nat
  | .lit (.string bytes) => bytes.length + 1
  | .lit _ => 1
  | .nil => 1
  | .ptr d => uptoBulk d + 1
  | .slice elems spare => uptoBulkAll elems + uptoBulkAll spare + 1
  | .agg parts => uptoBulkAll parts + 1
  | .iface _ d => uptoBulk d + 1
  | .map entries => uptoBulkEntries entries + 1
  | .held _ => 1
def uptoBulkAll {H : Type} : List (DataW H) → Nat
  | [] => 0
  | d :: r => uptoBulk d + uptoBulkAll r
def uptoBulkEntries {H : Type} : List (Lit × DataW H) → Nat
  | [] => 0
  | x :: r => uptoBulkEntry x + uptoBulkEntries r
def uptoBulkEntry {H : Type} : Lit × DataW H → Nat
  | (.string bytes, d) => bytes.length + uptoBulk d + 1
  | (_, d) => uptoBulk d + 1
 end
def uptoSmall : (H : Type) → List (DataW H) → Bool := fun _ ds => decide (uptoBulkAll ds ≤ 1048576)
def OpenSpec.upto (s : _root_.Go.ChangeSpec) : _root_.Go.OpenSpec := { _root_.Go.OpenSpec.ofChange s with cond := some uptoSmall }

/-- 'flywheellaw11.NackEncodes', WHERE WHAT IT READS IS OF BULK AT MOST 1048576: true; the input reads as it did. -/
def nackEncodesUptoRow : OpenClaim := { program := "ytnllbldfganfgaa", sum := "9fff93d52192aa44f02fb1f879c18d7e163825dcb5d3b83a458cd9d7135cc756", func := "flywheel/flywheellaw11.NackEncodes", spec := "nackEncodes", apart := false, narrowed := true }
def NackEncodesUptoSaid : Prop := nackEncodesUptoRow.holds Try.pinned (OpenSpec.upto nackEncodesSpec)

/-- 'flywheellaw11.NackDecodes', WHERE WHAT IT READS IS OF BULK AT MOST 1048576: true; the input reads as it did. -/
def nackDecodesUptoRow : OpenClaim := { program := "ytnllbldfganfgaa", sum := "9fff93d52192aa44f02fb1f879c18d7e163825dcb5d3b83a458cd9d7135cc756", func := "flywheel/flywheellaw11.NackDecodes", spec := "nackDecodes", apart := false, narrowed := true }
def NackDecodesUptoSaid : Prop := nackDecodesUptoRow.holds Try.pinned (OpenSpec.upto nackDecodesSpec)

/-- 'flywheellaw11.NackBack', WHERE WHAT IT READS IS OF BULK AT MOST 1048576: true; the input reads as it did. -/
def nackBackUptoRow : OpenClaim := { program := "ytnllbldfganfgaa", sum := "9fff93d52192aa44f02fb1f879c18d7e163825dcb5d3b83a458cd9d7135cc756", func := "flywheel/flywheellaw11.NackBack", spec := "nackBack", apart := false, narrowed := true }
def NackBackUptoSaid : Prop := nackBackUptoRow.holds Try.pinned (OpenSpec.upto nackBackSpec)

/-- 'flywheellaw11.NackMasks', WHERE WHAT IT READS IS OF BULK AT MOST 1048576: true; the input reads as it did. -/
def nackMasksUptoRow : OpenClaim := { program := "ytnllbldfganfgaa", sum := "9fff93d52192aa44f02fb1f879c18d7e163825dcb5d3b83a458cd9d7135cc756", func := "flywheel/flywheellaw11.NackMasks", spec := "nackMasks", apart := false, narrowed := true }
def NackMasksUptoSaid : Prop := nackMasksUptoRow.holds Try.pinned (OpenSpec.upto nackMasksSpec)

/-- 'flywheellaw11.NackShort', WHERE WHAT IT READS IS OF BULK AT MOST 1048576: true; the input reads as it did. -/
def nackShortUptoRow : OpenClaim := { program := "ytnllbldfganfgaa", sum := "9fff93d52192aa44f02fb1f879c18d7e163825dcb5d3b83a458cd9d7135cc756", func := "flywheel/flywheellaw11.NackShort", spec := "nackShort", apart := false, narrowed := true }
def NackShortUptoSaid : Prop := nackShortUptoRow.holds Try.pinned (OpenSpec.upto nackShortSpec)

end Rows
end Go.Proofs.Ytnllbldfganfgaa
