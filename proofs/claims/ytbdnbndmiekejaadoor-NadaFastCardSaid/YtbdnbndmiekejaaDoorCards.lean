/-
  DERIVED. GIVEN WITH THE SEED: THE CARDS: each row of YtbdnbndmiekejaaDoorRows.lean that lists a variable, with what it lists TIED to the program's text (the seventh form; the later family's looks); each row that meets fmt, with fmt's text TOLD by the authors' own Lean function (tested against real Go, not proved from fmt's source: count such statements apart). THE CARD IS WHAT COUNTS. Prove the row's statement (the work); the ties are given (YtbdnbndmiekejaaDoorTie.lean); close each card by the builder's one call (the guide's Derived/Test/ToyasCard.lean, 'card_holds'). Laid BY PROGRAM, IN A SANDBOX (cutbox-door.mjs). By AI agents, Wed Nov 11 2026. No macro, syntax, notation, axiom, sorry.
-/
import Derived.Test.YtbdnbndmiekejaaDoorRows
import GoSem.ClaimSeven
namespace Go.Proofs.YtbdnbndmiekejaaDoor
namespace Rows

/-- THE TIED CARD OF 'flywheellaw23.NadaWarps'. -/
def nadaWarpsCard : Claim7 := { stood := { row := nadaWarpsRow, standIns := [], harness := (true, "bff46419b96093d7c956692796e69ef6c2e907f3c3427f199ebed39f96f60c73"), looks := false }, kinds := [], alts := [], laidByText := true, laidKinds := [.data, .data], laidTests := true, laidLooks := .later }
def NadaWarpsCardSaid : Prop := Claim7.holds Tryd.pinned (.plain (OpenSpec.ofChange nadaWarpsSpec)) nadaWarpsCard

/-- THE TIED CARD OF 'flywheellaw23.NadaFast'. -/
def nadaFastCard : Claim7 := { stood := { row := nadaFastRow, standIns := [], harness := (true, "bff46419b96093d7c956692796e69ef6c2e907f3c3427f199ebed39f96f60c73"), looks := false }, kinds := [], alts := [], laidByText := true, laidKinds := [.data, .data], laidTests := true, laidLooks := .later }
def NadaFastCardSaid : Prop := Claim7.holds Tryd.pinned (.plain (OpenSpec.ofChange nadaFastSpec)) nadaFastCard

/-- THE TIED CARD OF 'flywheellaw23.NadaBounds'. -/
def nadaBoundsCard : Claim7 := { stood := { row := nadaBoundsRow, standIns := [], harness := (true, "bff46419b96093d7c956692796e69ef6c2e907f3c3427f199ebed39f96f60c73"), looks := false }, kinds := [], alts := [], laidByText := true, laidKinds := [.data, .data], laidTests := true, laidLooks := .later }
def NadaBoundsCardSaid : Prop := Claim7.holds Tryd.pinned (.plain (OpenSpec.ofChange nadaBoundsSpec)) nadaBoundsCard

/-- THE TIED CARD OF 'flywheellaw23.NadaNone'. -/
def nadaNoneCard : Claim7 := { stood := { row := nadaNoneRow, standIns := [], harness := (true, "bff46419b96093d7c956692796e69ef6c2e907f3c3427f199ebed39f96f60c73"), looks := false }, kinds := [], alts := [], laidByText := true, laidKinds := [.data, .data], laidTests := true, laidLooks := .later }
def NadaNoneCardSaid : Prop := Claim7.holds Tryd.pinned (.plain (OpenSpec.ofChange nadaNoneSpec)) nadaNoneCard

/-- THE SECOND FORM's CARD OF 'flywheellaw23.NadaWarps'. -/
def nadaWarpsUptoCard : Claim7 := { stood := { row := nadaWarpsUptoRow, standIns := [], harness := (true, "bff46419b96093d7c956692796e69ef6c2e907f3c3427f199ebed39f96f60c73"), looks := false }, kinds := [], alts := [], laidByText := true, laidKinds := [.data, .data], laidTests := true, laidLooks := .later }
def NadaWarpsUptoCardSaid : Prop := Claim7.holds Tryd.pinned (.plain (OpenSpec.upto nadaWarpsSpec)) nadaWarpsUptoCard

/-- THE SECOND FORM's CARD OF 'flywheellaw23.NadaFast'. -/
def nadaFastUptoCard : Claim7 := { stood := { row := nadaFastUptoRow, standIns := [], harness := (true, "bff46419b96093d7c956692796e69ef6c2e907f3c3427f199ebed39f96f60c73"), looks := false }, kinds := [], alts := [], laidByText := true, laidKinds := [.data, .data], laidTests := true, laidLooks := .later }
def NadaFastUptoCardSaid : Prop := Claim7.holds Tryd.pinned (.plain (OpenSpec.upto nadaFastSpec)) nadaFastUptoCard

/-- THE SECOND FORM's CARD OF 'flywheellaw23.NadaBounds'. -/
def nadaBoundsUptoCard : Claim7 := { stood := { row := nadaBoundsUptoRow, standIns := [], harness := (true, "bff46419b96093d7c956692796e69ef6c2e907f3c3427f199ebed39f96f60c73"), looks := false }, kinds := [], alts := [], laidByText := true, laidKinds := [.data, .data], laidTests := true, laidLooks := .later }
def NadaBoundsUptoCardSaid : Prop := Claim7.holds Tryd.pinned (.plain (OpenSpec.upto nadaBoundsSpec)) nadaBoundsUptoCard

/-- THE SECOND FORM's CARD OF 'flywheellaw23.NadaNone'. -/
def nadaNoneUptoCard : Claim7 := { stood := { row := nadaNoneUptoRow, standIns := [], harness := (true, "bff46419b96093d7c956692796e69ef6c2e907f3c3427f199ebed39f96f60c73"), looks := false }, kinds := [], alts := [], laidByText := true, laidKinds := [.data, .data], laidTests := true, laidLooks := .later }
def NadaNoneUptoCardSaid : Prop := Claim7.holds Tryd.pinned (.plain (OpenSpec.upto nadaNoneSpec)) nadaNoneUptoCard
end Rows
end Go.Proofs.YtbdnbndmiekejaaDoor
