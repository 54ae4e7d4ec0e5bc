/-
  NARROWER THAN 'FOR EVERY INPUT', by the rows' own cells (each row's printed sentence says how): NadaWarps: laid · NadaFast: laid · NadaBounds: laid · NadaNone: laid.
  DERIVED. THE GIVEN ROWS OF THIS SEAT. 4 by the template 'for every input the law returns true; each argument reads behind the call as it read before'; 0 by the template 'total and deterministic' (their statements: YtbdnbndmiekejaaDoorTotals.lean).
  GIVEN WITH THE SEED: the statements are not yours to turn. If you find one false, say at which input.
  Laid BY PROGRAM, IN A SANDBOX (cutbox-rows.mjs): the forced cells as the released guide's own fill.sh prints them over the translation d773a9beab49ffea… (all of the seat's roots in one cut). By AI agents, Wed Nov 11 2026. No macro, syntax, notation, axiom, sorry.
-/
import Derived.Test.YtbdnbndmiekejaaDoorChecked
import GoSem.Claim
import GoSem.ClaimJoined
import GoSem.ClaimMapViews
import Derived.JoinedTies
import Derived.KernelRfl
namespace Go.Proofs.YtbdnbndmiekejaaDoor
/- THE CELL 'sum', in the pinned program and in every row, IS THE sha256 OF THE DUMP (.gsa) THAT YtbdnbndmiekejaaDoorProg.lean LOADS. Nothing in Lean hashes anything: it is a label: what it is worth is what the hold of that sum in a sandbox is worth. -/
noncomputable def Tryd.pinned : Pinned := { name := "ytbdnbndmiekejaadoor", sum := "d773a9beab49ffea19256c03d7130ecb1914ba52fd75fada0a5a07ad783f40b7", checked := Tryd.checked }
namespace Rows
def none {H : Type} : Left H := { results := [], args := [] }

/- WHAT THE LISTED PACKAGE-LEVEL VARIABLES READ AS WHEN THE CALL BEGINS. Each datum BY PROGRAM (the guide's laid-datum.mjs) off the statement by which the dump's own 'gosem.cut.vars' lays the variable. In a bare row this is a premise. The card (YtbdnbndmiekejaaDoorCards.lean) ties it to the program's text. -/
def laid_flywheel_fixed_factors {H : Type} : DataW H := .agg [.lit (.int .i64 (-2977044472)), .lit (.int .i64 1031764991), .lit (.int .i64 (-206353000))]
def laid_flywheel_nada_number {H : Type} : DataW H := .agg [.lit (.int .i64 50000), .lit (.int .i64 10000), .lit (.int .i64 500000), .lit (.int .i64 100000), .lit (.int .i64 100000), .lit (.int .i64 3), .lit (.int .i64 10000), .lit (.int .i64 50000), .lit (.int .i64 2), .lit (.int .i64 20000)]

/-- 'flywheellaw23.NadaWarps': WHATEVER THE INPUT: true; the input reads as it did. -/
def nadaWarpsSpec : ChangeSpec := { name := "nadaWarps", fn := fun _ => fun
  | [d1, d2, d3] => { results := [.lit (.bool true)], args := [d1, d2, d3] }
  | _ => none }
def nadaWarpsRow : OpenClaim := { program := "ytbdnbndmiekejaadoor", sum := "d773a9beab49ffea19256c03d7130ecb1914ba52fd75fada0a5a07ad783f40b7", func := "flywheel/flywheellaw23.NadaWarps", spec := "nadaWarps", inPlace := ["math/bits.Add64", "math/bits.Sub64"], named := ["flywheel/nada.number", "math/bits.divideError", "math/bits.overflowError", "flywheel/fixed.factors"], apart := false, laid := [("flywheel/fixed.factors", laid_flywheel_fixed_factors), ("flywheel/nada.number", laid_flywheel_nada_number)] }
def NadaWarpsSaid : Prop := nadaWarpsRow.holds Tryd.pinned (OpenSpec.ofChange nadaWarpsSpec)

/-- ITS FALSE NEIGHBOUR: 'it returns false'. Refute it at one input. -/
def nadaWarpsWrong : ChangeSpec := { name := "nadaWarps", fn := fun _ => fun
  | [d1, d2, d3] => { results := [.lit (.bool false)], args := [d1, d2, d3] }
  | _ => none }
def NadaWarpsWrongFalsely : Prop := nadaWarpsRow.holds Tryd.pinned (OpenSpec.ofChange nadaWarpsWrong)

/-- 'flywheellaw23.NadaFast': WHATEVER THE INPUT: true; the input reads as it did. -/
def nadaFastSpec : ChangeSpec := { name := "nadaFast", fn := fun _ => fun
  | [d1, d2, d3] => { results := [.lit (.bool true)], args := [d1, d2, d3] }
  | _ => none }
def nadaFastRow : OpenClaim := { program := "ytbdnbndmiekejaadoor", sum := "d773a9beab49ffea19256c03d7130ecb1914ba52fd75fada0a5a07ad783f40b7", func := "flywheel/flywheellaw23.NadaFast", spec := "nadaFast", inPlace := ["math/bits.Add64", "math/bits.Sub64"], named := ["flywheel/nada.number", "math/bits.divideError", "math/bits.overflowError", "flywheel/fixed.factors"], apart := false, laid := [("flywheel/fixed.factors", laid_flywheel_fixed_factors), ("flywheel/nada.number", laid_flywheel_nada_number)] }
def NadaFastSaid : Prop := nadaFastRow.holds Tryd.pinned (OpenSpec.ofChange nadaFastSpec)

/-- ITS FALSE NEIGHBOUR: 'it returns false'. Refute it at one input. -/
def nadaFastWrong : ChangeSpec := { name := "nadaFast", fn := fun _ => fun
  | [d1, d2, d3] => { results := [.lit (.bool false)], args := [d1, d2, d3] }
  | _ => none }
def NadaFastWrongFalsely : Prop := nadaFastRow.holds Tryd.pinned (OpenSpec.ofChange nadaFastWrong)

/-- 'flywheellaw23.NadaBounds': WHATEVER THE INPUT: true; the input reads as it did. -/
def nadaBoundsSpec : ChangeSpec := { name := "nadaBounds", fn := fun _ => fun
  | [d1, d2] => { results := [.lit (.bool true)], args := [d1, d2] }
  | _ => none }
def nadaBoundsRow : OpenClaim := { program := "ytbdnbndmiekejaadoor", sum := "d773a9beab49ffea19256c03d7130ecb1914ba52fd75fada0a5a07ad783f40b7", func := "flywheel/flywheellaw23.NadaBounds", spec := "nadaBounds", inPlace := ["math/bits.Add64", "math/bits.Sub64"], named := ["flywheel/nada.number", "math/bits.divideError", "math/bits.overflowError", "flywheel/fixed.factors"], apart := false, laid := [("flywheel/fixed.factors", laid_flywheel_fixed_factors), ("flywheel/nada.number", laid_flywheel_nada_number)] }
def NadaBoundsSaid : Prop := nadaBoundsRow.holds Tryd.pinned (OpenSpec.ofChange nadaBoundsSpec)

/-- ITS FALSE NEIGHBOUR: 'it returns false'. Refute it at one input. -/
def nadaBoundsWrong : ChangeSpec := { name := "nadaBounds", fn := fun _ => fun
  | [d1, d2] => { results := [.lit (.bool false)], args := [d1, d2] }
  | _ => none }
def NadaBoundsWrongFalsely : Prop := nadaBoundsRow.holds Tryd.pinned (OpenSpec.ofChange nadaBoundsWrong)

/-- 'flywheellaw23.NadaNone': WHATEVER THE INPUT: true; the input reads as it did. -/
def nadaNoneSpec : ChangeSpec := { name := "nadaNone", fn := fun _ => fun
  | [d] => { results := [.lit (.bool true)], args := [d] }
  | _ => none }
def nadaNoneRow : OpenClaim := { program := "ytbdnbndmiekejaadoor", sum := "d773a9beab49ffea19256c03d7130ecb1914ba52fd75fada0a5a07ad783f40b7", func := "flywheel/flywheellaw23.NadaNone", spec := "nadaNone", inPlace := ["math/bits.Add64", "math/bits.Sub64"], named := ["flywheel/nada.number", "math/bits.divideError", "math/bits.overflowError", "flywheel/fixed.factors"], apart := false, laid := [("flywheel/fixed.factors", laid_flywheel_fixed_factors), ("flywheel/nada.number", laid_flywheel_nada_number)] }
def NadaNoneSaid : Prop := nadaNoneRow.holds Tryd.pinned (OpenSpec.ofChange nadaNoneSpec)

/-- ITS FALSE NEIGHBOUR: 'it returns false'. Refute it at one input. -/
def nadaNoneWrong : ChangeSpec := { name := "nadaNone", fn := fun _ => fun
  | [d] => { results := [.lit (.bool false)], args := [d] }
  | _ => none }
def NadaNoneWrongFalsely : Prop := nadaNoneRow.holds Tryd.pinned (OpenSpec.ofChange nadaNoneWrong)

/- THE SECOND FORM. 'bulk': how many values and letters a reading holds, each counted each time it is reached (what is shared counts as often as it is met; a slice's spare places count too). A statement '..UptoSaid' is the law's where the arguments, and the package variables that the reading takes, are together of bulk at most 1048576: NARROWER than '..Said'. Prove '..Said' where nothing that the law and all that it calls make is longer than what came in: it says more and counts as full. Else prove '..UptoSaid'. A law counts once. -/
mutual
def uptoBulk {H : Type} : DataW H → Nat
  | .lit (.string bytes) => bytes.length + 1
  | .lit _ => 1
  | .nil => 1
  | .ptr d => uptoBulk d + 1
  | .slice elems spare => uptoBulkAll elems + uptoBulkAll spare + 1
  | .agg parts => uptoBulkAll parts + 1
  | .iface _ d => uptoBulk d + 1
  | .map entries => uptoBulkEntries entries + 1
  | .held _ => 1
def uptoBulkAll {H : Type} : List (DataW H) → Nat
  | [] => 0
  | d :: r => uptoBulk d + uptoBulkAll r
def uptoBulkEntries {H : Type} : List (Lit × DataW H) → Nat
  | [] => 0
  | x :: r => uptoBulkEntry x + uptoBulkEntries r
def uptoBulkEntry {H : Type} : Lit × DataW H → Nat
  | (.string bytes, d) => bytes.length + uptoBulk d + 1
  | (_, d) => uptoBulk d + 1
 end
def uptoSmall : (H : Type) → List (DataW H) → Bool := fun _ ds => decide (uptoBulkAll ds ≤ 1048576)
def OpenSpec.upto (s : _root_.Go.ChangeSpec) : _root_.Go.OpenSpec := { _root_.Go.OpenSpec.ofChange s with cond := some uptoSmall }

/-- 'flywheellaw23.NadaWarps', WHERE WHAT IT READS IS OF BULK AT MOST 1048576: true; the input reads as it did. -/
def nadaWarpsUptoRow : OpenClaim := { program := "ytbdnbndmiekejaadoor", sum := "d773a9beab49ffea19256c03d7130ecb1914ba52fd75fada0a5a07ad783f40b7", func := "flywheel/flywheellaw23.NadaWarps", spec := "nadaWarps", inPlace := ["math/bits.Add64", "math/bits.Sub64"], named := ["flywheel/nada.number", "math/bits.divideError", "math/bits.overflowError", "flywheel/fixed.factors"], apart := false, laid := [("flywheel/fixed.factors", laid_flywheel_fixed_factors), ("flywheel/nada.number", laid_flywheel_nada_number)], narrowed := true }
def NadaWarpsUptoSaid : Prop := nadaWarpsUptoRow.holds Tryd.pinned (OpenSpec.upto nadaWarpsSpec)

/-- 'flywheellaw23.NadaFast', WHERE WHAT IT READS IS OF BULK AT MOST 1048576: true; the input reads as it did. -/
def nadaFastUptoRow : OpenClaim := { program := "ytbdnbndmiekejaadoor", sum := "d773a9beab49ffea19256c03d7130ecb1914ba52fd75fada0a5a07ad783f40b7", func := "flywheel/flywheellaw23.NadaFast", spec := "nadaFast", inPlace := ["math/bits.Add64", "math/bits.Sub64"], named := ["flywheel/nada.number", "math/bits.divideError", "math/bits.overflowError", "flywheel/fixed.factors"], apart := false, laid := [("flywheel/fixed.factors", laid_flywheel_fixed_factors), ("flywheel/nada.number", laid_flywheel_nada_number)], narrowed := true }
def NadaFastUptoSaid : Prop := nadaFastUptoRow.holds Tryd.pinned (OpenSpec.upto nadaFastSpec)

/-- 'flywheellaw23.NadaBounds', WHERE WHAT IT READS IS OF BULK AT MOST 1048576: true; the input reads as it did. -/
def nadaBoundsUptoRow : OpenClaim := { program := "ytbdnbndmiekejaadoor", sum := "d773a9beab49ffea19256c03d7130ecb1914ba52fd75fada0a5a07ad783f40b7", func := "flywheel/flywheellaw23.NadaBounds", spec := "nadaBounds", inPlace := ["math/bits.Add64", "math/bits.Sub64"], named := ["flywheel/nada.number", "math/bits.divideError", "math/bits.overflowError", "flywheel/fixed.factors"], apart := false, laid := [("flywheel/fixed.factors", laid_flywheel_fixed_factors), ("flywheel/nada.number", laid_flywheel_nada_number)], narrowed := true }
def NadaBoundsUptoSaid : Prop := nadaBoundsUptoRow.holds Tryd.pinned (OpenSpec.upto nadaBoundsSpec)

/-- 'flywheellaw23.NadaNone', WHERE WHAT IT READS IS OF BULK AT MOST 1048576: true; the input reads as it did. -/
def nadaNoneUptoRow : OpenClaim := { program := "ytbdnbndmiekejaadoor", sum := "d773a9beab49ffea19256c03d7130ecb1914ba52fd75fada0a5a07ad783f40b7", func := "flywheel/flywheellaw23.NadaNone", spec := "nadaNone", inPlace := ["math/bits.Add64", "math/bits.Sub64"], named := ["flywheel/nada.number", "math/bits.divideError", "math/bits.overflowError", "flywheel/fixed.factors"], apart := false, laid := [("flywheel/fixed.factors", laid_flywheel_fixed_factors), ("flywheel/nada.number", laid_flywheel_nada_number)], narrowed := true }
def NadaNoneUptoSaid : Prop := nadaNoneUptoRow.holds Tryd.pinned (OpenSpec.upto nadaNoneSpec)

end Rows
end Go.Proofs.YtbdnbndmiekejaaDoor
