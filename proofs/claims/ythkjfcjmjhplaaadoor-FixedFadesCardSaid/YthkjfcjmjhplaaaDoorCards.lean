/-
  DERIVED. GIVEN WITH THE SEED: THE CARDS: each row of YthkjfcjmjhplaaaDoorRows.lean that lists a variable, with what it lists TIED to the program's text (the seventh form; the later family's looks); each row that meets fmt, with fmt's text TOLD by the authors' own Lean function (tested against real Go, not proved from fmt's source: count such statements apart). THE CARD IS WHAT COUNTS. Prove the row's statement (the work); the ties are given (YthkjfcjmjhplaaaDoorTie.lean); close each card by the builder's one call (the guide's Derived/Test/ToyasCard.lean, 'card_holds'). Laid BY PROGRAM, IN A SANDBOX (cutbox-door.mjs). By AI agents, Wed Nov 11 2026. No macro, syntax, notation, axiom, sorry.
-/
import Derived.Test.YthkjfcjmjhplaaaDoorRows
import GoSem.ClaimSeven
namespace Go.Proofs.YthkjfcjmjhplaaaDoor
namespace Rows

/-- THE TIED CARD OF 'flywheellaw03.FixedFades'. -/
def fixedFadesCard : Claim7 := { stood := { row := fixedFadesRow, standIns := [], harness := (true, "7a0f0a003c1e52ee52d5f606e959dbdffd5be6a85af308a1574f794535f99dcc"), looks := false }, kinds := [], alts := [], laidByText := true, laidKinds := [.data], laidTests := true, laidLooks := .later }
def FixedFadesCardSaid : Prop := Claim7.holds Tryd.pinned (.plain (OpenSpec.ofChange fixedFadesSpec)) fixedFadesCard

/-- THE TIED CARD OF 'flywheellaw03.FixedHalves'. -/
def fixedHalvesCard : Claim7 := { stood := { row := fixedHalvesRow, standIns := [], harness := (true, "7a0f0a003c1e52ee52d5f606e959dbdffd5be6a85af308a1574f794535f99dcc"), looks := false }, kinds := [], alts := [], laidByText := true, laidKinds := [.data], laidTests := true, laidLooks := .later }
def FixedHalvesCardSaid : Prop := Claim7.holds Tryd.pinned (.plain (OpenSpec.ofChange fixedHalvesSpec)) fixedHalvesCard

/-- THE TIED CARD OF 'flywheellaw03.FixedDoes'. -/
def fixedDoesCard : Claim7 := { stood := { row := fixedDoesRow, standIns := [], harness := (true, "7a0f0a003c1e52ee52d5f606e959dbdffd5be6a85af308a1574f794535f99dcc"), looks := false }, kinds := [], alts := [], laidByText := true, laidKinds := [.data], laidTests := true, laidLooks := .later }
def FixedDoesCardSaid : Prop := Claim7.holds Tryd.pinned (.plain (OpenSpec.ofChange fixedDoesSpec)) fixedDoesCard

/-- THE TIED CARD OF 'flywheellaw03.FixedMixes'. -/
def fixedMixesCard : Claim7 := { stood := { row := fixedMixesRow, standIns := [], harness := (true, "7a0f0a003c1e52ee52d5f606e959dbdffd5be6a85af308a1574f794535f99dcc"), looks := false }, kinds := [], alts := [], laidByText := true, laidKinds := [.data], laidTests := true, laidLooks := .later }
def FixedMixesCardSaid : Prop := Claim7.holds Tryd.pinned (.plain (OpenSpec.ofChange fixedMixesSpec)) fixedMixesCard

/-- THE TIED CARD OF 'flywheellaw03.FixedBetween'. -/
def fixedBetweenCard : Claim7 := { stood := { row := fixedBetweenRow, standIns := [], harness := (true, "7a0f0a003c1e52ee52d5f606e959dbdffd5be6a85af308a1574f794535f99dcc"), looks := false }, kinds := [], alts := [], laidByText := true, laidKinds := [.data], laidTests := true, laidLooks := .later }
def FixedBetweenCardSaid : Prop := Claim7.holds Tryd.pinned (.plain (OpenSpec.ofChange fixedBetweenSpec)) fixedBetweenCard

/-- THE TIED CARD OF 'flywheellaw03.FixedBack'. -/
def fixedBackCard : Claim7 := { stood := { row := fixedBackRow, standIns := [], harness := (true, "7a0f0a003c1e52ee52d5f606e959dbdffd5be6a85af308a1574f794535f99dcc"), looks := false }, kinds := [], alts := [], laidByText := true, laidKinds := [.data], laidTests := true, laidLooks := .later }
def FixedBackCardSaid : Prop := Claim7.holds Tryd.pinned (.plain (OpenSpec.ofChange fixedBackSpec)) fixedBackCard

/-- THE SECOND FORM's CARD OF 'flywheellaw03.FixedFades'. -/
def fixedFadesUptoCard : Claim7 := { stood := { row := fixedFadesUptoRow, standIns := [], harness := (true, "7a0f0a003c1e52ee52d5f606e959dbdffd5be6a85af308a1574f794535f99dcc"), looks := false }, kinds := [], alts := [], laidByText := true, laidKinds := [.data], laidTests := true, laidLooks := .later }
def FixedFadesUptoCardSaid : Prop := Claim7.holds Tryd.pinned (.plain (OpenSpec.upto fixedFadesSpec)) fixedFadesUptoCard

/-- THE SECOND FORM's CARD OF 'flywheellaw03.FixedHalves'. -/
def fixedHalvesUptoCard : Claim7 := { stood := { row := fixedHalvesUptoRow, standIns := [], harness := (true, "7a0f0a003c1e52ee52d5f606e959dbdffd5be6a85af308a1574f794535f99dcc"), looks := false }, kinds := [], alts := [], laidByText := true, laidKinds := [.data], laidTests := true, laidLooks := .later }
def FixedHalvesUptoCardSaid : Prop := Claim7.holds Tryd.pinned (.plain (OpenSpec.upto fixedHalvesSpec)) fixedHalvesUptoCard

/-- THE SECOND FORM's CARD OF 'flywheellaw03.FixedDoes'. -/
def fixedDoesUptoCard : Claim7 := { stood := { row := fixedDoesUptoRow, standIns := [], harness := (true, "7a0f0a003c1e52ee52d5f606e959dbdffd5be6a85af308a1574f794535f99dcc"), looks := false }, kinds := [], alts := [], laidByText := true, laidKinds := [.data], laidTests := true, laidLooks := .later }
def FixedDoesUptoCardSaid : Prop := Claim7.holds Tryd.pinned (.plain (OpenSpec.upto fixedDoesSpec)) fixedDoesUptoCard

/-- THE SECOND FORM's CARD OF 'flywheellaw03.FixedMixes'. -/
def fixedMixesUptoCard : Claim7 := { stood := { row := fixedMixesUptoRow, standIns := [], harness := (true, "7a0f0a003c1e52ee52d5f606e959dbdffd5be6a85af308a1574f794535f99dcc"), looks := false }, kinds := [], alts := [], laidByText := true, laidKinds := [.data], laidTests := true, laidLooks := .later }
def FixedMixesUptoCardSaid : Prop := Claim7.holds Tryd.pinned (.plain (OpenSpec.upto fixedMixesSpec)) fixedMixesUptoCard

/-- THE SECOND FORM's CARD OF 'flywheellaw03.FixedBetween'. -/
def fixedBetweenUptoCard : Claim7 := { stood := { row := fixedBetweenUptoRow, standIns := [], harness := (true, "7a0f0a003c1e52ee52d5f606e959dbdffd5be6a85af308a1574f794535f99dcc"), looks := false }, kinds := [], alts := [], laidByText := true, laidKinds := [.data], laidTests := true, laidLooks := .later }
def FixedBetweenUptoCardSaid : Prop := Claim7.holds Tryd.pinned (.plain (OpenSpec.upto fixedBetweenSpec)) fixedBetweenUptoCard

/-- THE SECOND FORM's CARD OF 'flywheellaw03.FixedBack'. -/
def fixedBackUptoCard : Claim7 := { stood := { row := fixedBackUptoRow, standIns := [], harness := (true, "7a0f0a003c1e52ee52d5f606e959dbdffd5be6a85af308a1574f794535f99dcc"), looks := false }, kinds := [], alts := [], laidByText := true, laidKinds := [.data], laidTests := true, laidLooks := .later }
def FixedBackUptoCardSaid : Prop := Claim7.holds Tryd.pinned (.plain (OpenSpec.upto fixedBackSpec)) fixedBackUptoCard
end Rows
end Go.Proofs.YthkjfcjmjhplaaaDoor
