/-
  DERIVED. GIVEN WITH THE SEED: THE CARDS: each row of YtmlghadphdpbjaaGreatDoorRows.lean that lists a variable, with what it lists TIED to the program's text (the seventh form; the later family's looks); each row that meets fmt, with fmt's text TOLD by the authors' own Lean function (tested against real Go, not proved from fmt's source: count such statements apart). THE CARD IS WHAT COUNTS. Prove the row's statement (the work); the ties are given (YtmlghadphdpbjaaGreatDoorTie.lean); close each card by the builder's one call (the guide's Derived/Test/ToyasCard.lean, 'card_holds'). Laid BY PROGRAM, IN A SANDBOX (cutbox-door.mjs). By AI agents, Wed Nov 11 2026. No macro, syntax, notation, axiom, sorry.
-/
import Derived.Test.YtmlghadphdpbjaaGreatDoorRows
import GoSem.ClaimSeven
namespace Go.Proofs.YtmlghadphdpbjaaGreatDoor
namespace Rows

/-- THE TIED CARD OF 'athanorlaw13.ShowParts'. -/
def showPartsCard : Claim7 := { stood := { row := showPartsRow, standIns := [], harness := (true, "868ed3311cff287e2001cb183645f99e92a0b745947d4069a56b7da9c7efe240"), looks := true }, kinds := [], alts := [], laidByText := true, laidKinds := [.data, .data, .data, .sentinel, .sentinel], laidTests := true, laidLooks := .later }
def ShowPartsCardSaid : Prop := Claim7.holds Tryz.pinned (.plain (OpenSpec.ofChange showPartsSpec)) showPartsCard

/-- THE TIED CARD OF 'athanorlaw13.ShowTypes'. -/
def showTypesCard : Claim7 := { stood := { row := showTypesRow, standIns := [], harness := (true, "868ed3311cff287e2001cb183645f99e92a0b745947d4069a56b7da9c7efe240"), looks := true }, kinds := [], alts := [], laidByText := true, laidKinds := [.data, .data, .data, .sentinel, .sentinel], laidTests := true, laidLooks := .later }
def ShowTypesCardSaid : Prop := Claim7.holds Tryz.pinned (.plain (OpenSpec.ofChange showTypesSpec)) showTypesCard

/-- THE TIED CARD OF 'athanorlaw13.ShowPrograms'. -/
def showProgramsCard : Claim7 := { stood := { row := showProgramsRow, standIns := [], harness := (true, "868ed3311cff287e2001cb183645f99e92a0b745947d4069a56b7da9c7efe240"), looks := true }, kinds := [], alts := [], laidByText := true, laidKinds := [.data, .data, .data, .sentinel, .sentinel], laidTests := true, laidLooks := .later }
def ShowProgramsCardSaid : Prop := Claim7.holds Tryz.pinned (.plain (OpenSpec.ofChange showProgramsSpec)) showProgramsCard

/-- THE TIED CARD OF 'athanorlaw13.ShowBack'. -/
def showBackCard : Claim7 := { stood := { row := showBackRow, standIns := [], harness := (true, "868ed3311cff287e2001cb183645f99e92a0b745947d4069a56b7da9c7efe240"), looks := true }, kinds := [], alts := [], laidByText := true, laidKinds := [.data, .data, .data, .sentinel, .sentinel], laidTests := true, laidLooks := .later }
def ShowBackCardSaid : Prop := Claim7.holds Tryz.pinned (.plain (OpenSpec.ofChange showBackSpec)) showBackCard

/-- THE TIED CARD OF 'athanorlaw13.ShowAgain'. -/
def showAgainCard : Claim7 := { stood := { row := showAgainRow, standIns := [], harness := (true, "868ed3311cff287e2001cb183645f99e92a0b745947d4069a56b7da9c7efe240"), looks := true }, kinds := [], alts := [], laidByText := true, laidKinds := [.data, .data, .data, .sentinel, .sentinel], laidTests := true, laidLooks := .later }
def ShowAgainCardSaid : Prop := Claim7.holds Tryz.pinned (.plain (OpenSpec.ofChange showAgainSpec)) showAgainCard

/-- THE SECOND FORM's CARD OF 'athanorlaw13.ShowParts'. -/
def showPartsUptoCard : Claim7 := { stood := { row := showPartsUptoRow, standIns := [], harness := (true, "868ed3311cff287e2001cb183645f99e92a0b745947d4069a56b7da9c7efe240"), looks := true }, kinds := [], alts := [], laidByText := true, laidKinds := [.data, .data, .data, .sentinel, .sentinel], laidTests := true, laidLooks := .later }
def ShowPartsUptoCardSaid : Prop := Claim7.holds Tryz.pinned (.plain (OpenSpec.upto showPartsSpec)) showPartsUptoCard

/-- THE SECOND FORM's CARD OF 'athanorlaw13.ShowTypes'. -/
def showTypesUptoCard : Claim7 := { stood := { row := showTypesUptoRow, standIns := [], harness := (true, "868ed3311cff287e2001cb183645f99e92a0b745947d4069a56b7da9c7efe240"), looks := true }, kinds := [], alts := [], laidByText := true, laidKinds := [.data, .data, .data, .sentinel, .sentinel], laidTests := true, laidLooks := .later }
def ShowTypesUptoCardSaid : Prop := Claim7.holds Tryz.pinned (.plain (OpenSpec.upto showTypesSpec)) showTypesUptoCard

/-- THE SECOND FORM's CARD OF 'athanorlaw13.ShowPrograms'. -/
def showProgramsUptoCard : Claim7 := { stood := { row := showProgramsUptoRow, standIns := [], harness := (true, "868ed3311cff287e2001cb183645f99e92a0b745947d4069a56b7da9c7efe240"), looks := true }, kinds := [], alts := [], laidByText := true, laidKinds := [.data, .data, .data, .sentinel, .sentinel], laidTests := true, laidLooks := .later }
def ShowProgramsUptoCardSaid : Prop := Claim7.holds Tryz.pinned (.plain (OpenSpec.upto showProgramsSpec)) showProgramsUptoCard

/-- THE SECOND FORM's CARD OF 'athanorlaw13.ShowBack'. -/
def showBackUptoCard : Claim7 := { stood := { row := showBackUptoRow, standIns := [], harness := (true, "868ed3311cff287e2001cb183645f99e92a0b745947d4069a56b7da9c7efe240"), looks := true }, kinds := [], alts := [], laidByText := true, laidKinds := [.data, .data, .data, .sentinel, .sentinel], laidTests := true, laidLooks := .later }
def ShowBackUptoCardSaid : Prop := Claim7.holds Tryz.pinned (.plain (OpenSpec.upto showBackSpec)) showBackUptoCard

/-- THE SECOND FORM's CARD OF 'athanorlaw13.ShowAgain'. -/
def showAgainUptoCard : Claim7 := { stood := { row := showAgainUptoRow, standIns := [], harness := (true, "868ed3311cff287e2001cb183645f99e92a0b745947d4069a56b7da9c7efe240"), looks := true }, kinds := [], alts := [], laidByText := true, laidKinds := [.data, .data, .data, .sentinel, .sentinel], laidTests := true, laidLooks := .later }
def ShowAgainUptoCardSaid : Prop := Claim7.holds Tryz.pinned (.plain (OpenSpec.upto showAgainSpec)) showAgainUptoCard
end Rows
end Go.Proofs.YtmlghadphdpbjaaGreatDoor
