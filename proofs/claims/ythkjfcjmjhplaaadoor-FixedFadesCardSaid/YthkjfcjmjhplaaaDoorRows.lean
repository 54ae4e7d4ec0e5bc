/-
  NARROWER THAN 'FOR EVERY INPUT', by the rows' own cells (each row's printed sentence says how): FixedFades: laid · FixedHalves: laid · FixedDoes: laid · FixedMixes: laid · FixedBetween: laid · FixedBack: laid.
  DERIVED. THE GIVEN ROWS OF THIS SEAT. 6 by the template 'for every input the law returns true; each argument reads behind the call as it read before'; 0 by the template 'total and deterministic' (their statements: YthkjfcjmjhplaaaDoorTotals.lean).
  GIVEN WITH THE SEED: the statements are not yours to turn. If you find one false, say at which input.
  Laid BY PROGRAM, IN A SANDBOX (cutbox-rows.mjs): the forced cells as the released guide's own fill.sh prints them over the translation fe9339e6e5fa4e5e… (all of the seat's roots in one cut). By AI agents, Wed Nov 11 2026. No macro, syntax, notation, axiom, sorry.
-/
import Derived.Test.YthkjfcjmjhplaaaDoorChecked
import GoSem.Claim
import GoSem.ClaimJoined
import GoSem.ClaimMapViews
import Derived.JoinedTies
import Derived.KernelRfl
namespace Go.Proofs.YthkjfcjmjhplaaaDoor
/- THE CELL 'sum', in the pinned program and in every row, IS THE sha256 OF THE DUMP (.gsa) THAT YthkjfcjmjhplaaaDoorProg.lean LOADS. Nothing in Lean hashes anything: it is a label: what it is worth is what the hold of that sum in a sandbox is worth. -/
noncomputable def Tryd.pinned : Pinned := { name := "ythkjfcjmjhplaaadoor", sum := "fe9339e6e5fa4e5e7cb8bf685f2d1dfb76ec4fe8e3d5241a71e7c5eead3276ed", checked := Tryd.checked }
namespace Rows
def none {H : Type} : Left H := { results := [], args := [] }

/- WHAT THE LISTED PACKAGE-LEVEL VARIABLES READ AS WHEN THE CALL BEGINS. Each datum BY PROGRAM (the guide's laid-datum.mjs) off the statement by which the dump's own 'gosem.cut.vars' lays the variable. In a bare row this is a premise. The card (YthkjfcjmjhplaaaDoorCards.lean) ties it to the program's text. -/
def laid_flywheel_fixed_factors {H : Type} : DataW H := .agg [.lit (.int .i64 (-2977044472)), .lit (.int .i64 1031764991), .lit (.int .i64 (-206353000))]

/-- 'flywheellaw03.FixedFades': WHATEVER THE INPUT: true; the input reads as it did. -/
def fixedFadesSpec : ChangeSpec := { name := "fixedFades", fn := fun _ => fun
  | [d] => { results := [.lit (.bool true)], args := [d] }
  | _ => none }
def fixedFadesRow : OpenClaim := { program := "ythkjfcjmjhplaaadoor", sum := "fe9339e6e5fa4e5e7cb8bf685f2d1dfb76ec4fe8e3d5241a71e7c5eead3276ed", func := "flywheel/flywheellaw03.FixedFades", spec := "fixedFades", inPlace := ["math/bits.Add64"], named := ["flywheel/fixed.factors", "math/bits.divideError", "math/bits.overflowError"], apart := false, laid := [("flywheel/fixed.factors", laid_flywheel_fixed_factors)] }
def FixedFadesSaid : Prop := fixedFadesRow.holds Tryd.pinned (OpenSpec.ofChange fixedFadesSpec)

/-- ITS FALSE NEIGHBOUR: 'it returns false'. Refute it at one input. -/
def fixedFadesWrong : ChangeSpec := { name := "fixedFades", fn := fun _ => fun
  | [d] => { results := [.lit (.bool false)], args := [d] }
  | _ => none }
def FixedFadesWrongFalsely : Prop := fixedFadesRow.holds Tryd.pinned (OpenSpec.ofChange fixedFadesWrong)

/-- 'flywheellaw03.FixedHalves': WHATEVER THE INPUT: true; the input reads as it did. -/
def fixedHalvesSpec : ChangeSpec := { name := "fixedHalves", fn := fun _ => fun
  | [d1, d2, d3] => { results := [.lit (.bool true)], args := [d1, d2, d3] }
  | _ => none }
def fixedHalvesRow : OpenClaim := { program := "ythkjfcjmjhplaaadoor", sum := "fe9339e6e5fa4e5e7cb8bf685f2d1dfb76ec4fe8e3d5241a71e7c5eead3276ed", func := "flywheel/flywheellaw03.FixedHalves", spec := "fixedHalves", inPlace := ["math/bits.Add64"], named := ["math/bits.divideError", "math/bits.overflowError", "flywheel/fixed.factors"], apart := false, laid := [("flywheel/fixed.factors", laid_flywheel_fixed_factors)] }
def FixedHalvesSaid : Prop := fixedHalvesRow.holds Tryd.pinned (OpenSpec.ofChange fixedHalvesSpec)

/-- ITS FALSE NEIGHBOUR: 'it returns false'. Refute it at one input. -/
def fixedHalvesWrong : ChangeSpec := { name := "fixedHalves", fn := fun _ => fun
  | [d1, d2, d3] => { results := [.lit (.bool false)], args := [d1, d2, d3] }
  | _ => none }
def FixedHalvesWrongFalsely : Prop := fixedHalvesRow.holds Tryd.pinned (OpenSpec.ofChange fixedHalvesWrong)

/-- 'flywheellaw03.FixedDoes': WHATEVER THE INPUT: true; the input reads as it did. -/
def fixedDoesSpec : ChangeSpec := { name := "fixedDoes", fn := fun _ => fun
  | [d1, d2] => { results := [.lit (.bool true)], args := [d1, d2] }
  | _ => none }
def fixedDoesRow : OpenClaim := { program := "ythkjfcjmjhplaaadoor", sum := "fe9339e6e5fa4e5e7cb8bf685f2d1dfb76ec4fe8e3d5241a71e7c5eead3276ed", func := "flywheel/flywheellaw03.FixedDoes", spec := "fixedDoes", inPlace := ["math/bits.Add64"], named := ["math/bits.divideError", "math/bits.overflowError", "flywheel/fixed.factors"], apart := false, laid := [("flywheel/fixed.factors", laid_flywheel_fixed_factors)] }
def FixedDoesSaid : Prop := fixedDoesRow.holds Tryd.pinned (OpenSpec.ofChange fixedDoesSpec)

/-- ITS FALSE NEIGHBOUR: 'it returns false'. Refute it at one input. -/
def fixedDoesWrong : ChangeSpec := { name := "fixedDoes", fn := fun _ => fun
  | [d1, d2] => { results := [.lit (.bool false)], args := [d1, d2] }
  | _ => none }
def FixedDoesWrongFalsely : Prop := fixedDoesRow.holds Tryd.pinned (OpenSpec.ofChange fixedDoesWrong)

/-- 'flywheellaw03.FixedMixes': WHATEVER THE INPUT: true; the input reads as it did. -/
def fixedMixesSpec : ChangeSpec := { name := "fixedMixes", fn := fun _ => fun
  | [d1, d2] => { results := [.lit (.bool true)], args := [d1, d2] }
  | _ => none }
def fixedMixesRow : OpenClaim := { program := "ythkjfcjmjhplaaadoor", sum := "fe9339e6e5fa4e5e7cb8bf685f2d1dfb76ec4fe8e3d5241a71e7c5eead3276ed", func := "flywheel/flywheellaw03.FixedMixes", spec := "fixedMixes", inPlace := ["math/bits.Sub64", "math/bits.Add64"], named := ["math/bits.divideError", "math/bits.overflowError", "flywheel/fixed.factors"], apart := false, laid := [("flywheel/fixed.factors", laid_flywheel_fixed_factors)] }
def FixedMixesSaid : Prop := fixedMixesRow.holds Tryd.pinned (OpenSpec.ofChange fixedMixesSpec)

/-- ITS FALSE NEIGHBOUR: 'it returns false'. Refute it at one input. -/
def fixedMixesWrong : ChangeSpec := { name := "fixedMixes", fn := fun _ => fun
  | [d1, d2] => { results := [.lit (.bool false)], args := [d1, d2] }
  | _ => none }
def FixedMixesWrongFalsely : Prop := fixedMixesRow.holds Tryd.pinned (OpenSpec.ofChange fixedMixesWrong)

/-- 'flywheellaw03.FixedBetween': WHATEVER THE INPUT: true; the input reads as it did. -/
def fixedBetweenSpec : ChangeSpec := { name := "fixedBetween", fn := fun _ => fun
  | [d1, d2, d3] => { results := [.lit (.bool true)], args := [d1, d2, d3] }
  | _ => none }
def fixedBetweenRow : OpenClaim := { program := "ythkjfcjmjhplaaadoor", sum := "fe9339e6e5fa4e5e7cb8bf685f2d1dfb76ec4fe8e3d5241a71e7c5eead3276ed", func := "flywheel/flywheellaw03.FixedBetween", spec := "fixedBetween", inPlace := ["math/bits.Sub64", "math/bits.Add64"], named := ["math/bits.divideError", "math/bits.overflowError", "flywheel/fixed.factors"], apart := false, laid := [("flywheel/fixed.factors", laid_flywheel_fixed_factors)] }
def FixedBetweenSaid : Prop := fixedBetweenRow.holds Tryd.pinned (OpenSpec.ofChange fixedBetweenSpec)

/-- ITS FALSE NEIGHBOUR: 'it returns false'. Refute it at one input. -/
def fixedBetweenWrong : ChangeSpec := { name := "fixedBetween", fn := fun _ => fun
  | [d1, d2, d3] => { results := [.lit (.bool false)], args := [d1, d2, d3] }
  | _ => none }
def FixedBetweenWrongFalsely : Prop := fixedBetweenRow.holds Tryd.pinned (OpenSpec.ofChange fixedBetweenWrong)

/-- 'flywheellaw03.FixedBack': WHATEVER THE INPUT: true; the input reads as it did. -/
def fixedBackSpec : ChangeSpec := { name := "fixedBack", fn := fun _ => fun
  | [d1, d2, d3] => { results := [.lit (.bool true)], args := [d1, d2, d3] }
  | _ => none }
def fixedBackRow : OpenClaim := { program := "ythkjfcjmjhplaaadoor", sum := "fe9339e6e5fa4e5e7cb8bf685f2d1dfb76ec4fe8e3d5241a71e7c5eead3276ed", func := "flywheel/flywheellaw03.FixedBack", spec := "fixedBack", inPlace := ["math/bits.Add64", "math/bits.Sub64"], named := ["math/bits.divideError", "math/bits.overflowError", "flywheel/fixed.factors"], apart := false, laid := [("flywheel/fixed.factors", laid_flywheel_fixed_factors)] }
def FixedBackSaid : Prop := fixedBackRow.holds Tryd.pinned (OpenSpec.ofChange fixedBackSpec)

/-- ITS FALSE NEIGHBOUR: 'it returns false'. Refute it at one input. -/
def fixedBackWrong : ChangeSpec := { name := "fixedBack", fn := fun _ => fun
  | [d1, d2, d3] => { results := [.lit (.bool false)], args := [d1, d2, d3] }
  | _ => none }
def FixedBackWrongFalsely : Prop := fixedBackRow.holds Tryd.pinned (OpenSpec.ofChange fixedBackWrong)

/- THE SECOND FORM. 'bulk': how many values and letters a reading holds, each counted each time it is reached (what is shared counts as often as it is met; a slice's spare places count too). A statement '..UptoSaid' is the law's where the arguments, and the package variables that the reading takes, are together of bulk at most 1048576: NARROWER than '..Said'. Prove '..Said' where nothing that the law and all that it calls make is longer than what came in: it says more and counts as full. Else prove '..UptoSaid'. A law counts once. -/
mutual
def uptoBulk {H : Type} : DataW H → Nat
  | .lit (.string bytes) => bytes.length + 1
  | .lit _ => 1
  | .nil => 1
  | .ptr d => uptoBulk d + 1
  | .slice elems spare => uptoBulkAll elems + uptoBulkAll spare + 1
  | .agg parts => uptoBulkAll parts + 1
  | .iface _ d => uptoBulk d + 1
  | .map entries => uptoBulkEntries entries + 1
  | .held _ => 1
def uptoBulkAll {H : Type} : List (DataW H) → Nat
  | [] => 0
  | d :: r => uptoBulk d + uptoBulkAll r
def uptoBulkEntries {H : Type} : List (Lit × DataW H) → Nat
  | [] => 0
  | x :: r => uptoBulkEntry x + uptoBulkEntries r
def uptoBulkEntry {H : Type} : Lit × DataW H → Nat
  | (.string bytes, d) => bytes.length + uptoBulk d + 1
  | (_, d) => uptoBulk d + 1
 end
def uptoSmall : (H : Type) → List (DataW H) → Bool := fun _ ds => decide (uptoBulkAll ds ≤ 1048576)
def OpenSpec.upto (s : _root_.Go.ChangeSpec) : _root_.Go.OpenSpec := { _root_.Go.OpenSpec.ofChange s with cond := some uptoSmall }

/-- 'flywheellaw03.FixedFades', WHERE WHAT IT READS IS OF BULK AT MOST 1048576: true; the input reads as it did. -/
def fixedFadesUptoRow : OpenClaim := { program := "ythkjfcjmjhplaaadoor", sum := "fe9339e6e5fa4e5e7cb8bf685f2d1dfb76ec4fe8e3d5241a71e7c5eead3276ed", func := "flywheel/flywheellaw03.FixedFades", spec := "fixedFades", inPlace := ["math/bits.Add64"], named := ["flywheel/fixed.factors", "math/bits.divideError", "math/bits.overflowError"], apart := false, laid := [("flywheel/fixed.factors", laid_flywheel_fixed_factors)], narrowed := true }
def FixedFadesUptoSaid : Prop := fixedFadesUptoRow.holds Tryd.pinned (OpenSpec.upto fixedFadesSpec)

/-- 'flywheellaw03.FixedHalves', WHERE WHAT IT READS IS OF BULK AT MOST 1048576: true; the input reads as it did. -/
def fixedHalvesUptoRow : OpenClaim := { program := "ythkjfcjmjhplaaadoor", sum := "fe9339e6e5fa4e5e7cb8bf685f2d1dfb76ec4fe8e3d5241a71e7c5eead3276ed", func := "flywheel/flywheellaw03.FixedHalves", spec := "fixedHalves", inPlace := ["math/bits.Add64"], named := ["math/bits.divideError", "math/bits.overflowError", "flywheel/fixed.factors"], apart := false, laid := [("flywheel/fixed.factors", laid_flywheel_fixed_factors)], narrowed := true }
def FixedHalvesUptoSaid : Prop := fixedHalvesUptoRow.holds Tryd.pinned (OpenSpec.upto fixedHalvesSpec)

/-- 'flywheellaw03.FixedDoes', WHERE WHAT IT READS IS OF BULK AT MOST 1048576: true; the input reads as it did. -/
def fixedDoesUptoRow : OpenClaim := { program := "ythkjfcjmjhplaaadoor", sum := "fe9339e6e5fa4e5e7cb8bf685f2d1dfb76ec4fe8e3d5241a71e7c5eead3276ed", func := "flywheel/flywheellaw03.FixedDoes", spec := "fixedDoes", inPlace := ["math/bits.Add64"], named := ["math/bits.divideError", "math/bits.overflowError", "flywheel/fixed.factors"], apart := false, laid := [("flywheel/fixed.factors", laid_flywheel_fixed_factors)], narrowed := true }
def FixedDoesUptoSaid : Prop := fixedDoesUptoRow.holds Tryd.pinned (OpenSpec.upto fixedDoesSpec)

/-- 'flywheellaw03.FixedMixes', WHERE WHAT IT READS IS OF BULK AT MOST 1048576: true; the input reads as it did. -/
def fixedMixesUptoRow : OpenClaim := { program := "ythkjfcjmjhplaaadoor", sum := "fe9339e6e5fa4e5e7cb8bf685f2d1dfb76ec4fe8e3d5241a71e7c5eead3276ed", func := "flywheel/flywheellaw03.FixedMixes", spec := "fixedMixes", inPlace := ["math/bits.Sub64", "math/bits.Add64"], named := ["math/bits.divideError", "math/bits.overflowError", "flywheel/fixed.factors"], apart := false, laid := [("flywheel/fixed.factors", laid_flywheel_fixed_factors)], narrowed := true }
def FixedMixesUptoSaid : Prop := fixedMixesUptoRow.holds Tryd.pinned (OpenSpec.upto fixedMixesSpec)

/-- 'flywheellaw03.FixedBetween', WHERE WHAT IT READS IS OF BULK AT MOST 1048576: true; the input reads as it did. -/
def fixedBetweenUptoRow : OpenClaim := { program := "ythkjfcjmjhplaaadoor", sum := "fe9339e6e5fa4e5e7cb8bf685f2d1dfb76ec4fe8e3d5241a71e7c5eead3276ed", func := "flywheel/flywheellaw03.FixedBetween", spec := "fixedBetween", inPlace := ["math/bits.Sub64", "math/bits.Add64"], named := ["math/bits.divideError", "math/bits.overflowError", "flywheel/fixed.factors"], apart := false, laid := [("flywheel/fixed.factors", laid_flywheel_fixed_factors)], narrowed := true }
def FixedBetweenUptoSaid : Prop := fixedBetweenUptoRow.holds Tryd.pinned (OpenSpec.upto fixedBetweenSpec)

/-- 'flywheellaw03.FixedBack', WHERE WHAT IT READS IS OF BULK AT MOST 1048576: true; the input reads as it did. -/
def fixedBackUptoRow : OpenClaim := { program := "ythkjfcjmjhplaaadoor", sum := "fe9339e6e5fa4e5e7cb8bf685f2d1dfb76ec4fe8e3d5241a71e7c5eead3276ed", func := "flywheel/flywheellaw03.FixedBack", spec := "fixedBack", inPlace := ["math/bits.Add64", "math/bits.Sub64"], named := ["math/bits.divideError", "math/bits.overflowError", "flywheel/fixed.factors"], apart := false, laid := [("flywheel/fixed.factors", laid_flywheel_fixed_factors)], narrowed := true }
def FixedBackUptoSaid : Prop := fixedBackUptoRow.holds Tryd.pinned (OpenSpec.upto fixedBackSpec)

end Rows
end Go.Proofs.YthkjfcjmjhplaaaDoor
