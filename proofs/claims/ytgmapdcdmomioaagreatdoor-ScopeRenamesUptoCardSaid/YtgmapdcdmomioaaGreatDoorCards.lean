/-
  DERIVED. GIVEN WITH THE SEED: THE CARDS: each row of YtgmapdcdmomioaaGreatDoorRows.lean that lists a variable, with what it lists TIED to the program's text (the seventh form; the later family's looks); each row that meets fmt, with fmt's text TOLD by the authors' own Lean function (tested against real Go, not proved from fmt's source: count such statements apart). THE CARD IS WHAT COUNTS. Prove the row's statement (the work); the ties are given (YtgmapdcdmomioaaGreatDoorTie.lean); close each card by the builder's one call (the guide's Derived/Test/ToyasCard.lean, 'card_holds'). Laid BY PROGRAM, IN A SANDBOX (cutbox-door.mjs). By AI agents, Wed Nov 11 2026. No macro, syntax, notation, axiom, sorry.
-/
import Derived.Test.YtgmapdcdmomioaaGreatDoorRows
import GoSem.ClaimSeven
namespace Go.Proofs.YtgmapdcdmomioaaGreatDoor
namespace Rows

/-- THE TIED CARD OF 'athanorlaw12.ParseReads'. -/
def parseReadsCard : Claim7 := { stood := { row := parseReadsRow, standIns := [], harness := (true, "de352d070b515da3f966ff8b290421961e1dea6e12fbd39f4145d1251d8e13fb"), looks := true }, kinds := [], alts := [], laidByText := true, laidKinds := [.data, .data, .data, .sentinel, .sentinel], laidTests := true, laidLooks := .later }
def ParseReadsCardSaid : Prop := Claim7.holds Tryz.pinned (.plain (OpenSpec.ofChange parseReadsSpec)) parseReadsCard

/-- THE TIED CARD OF 'athanorlaw12.ParseBrackets'. -/
def parseBracketsCard : Claim7 := { stood := { row := parseBracketsRow, standIns := [], harness := (true, "de352d070b515da3f966ff8b290421961e1dea6e12fbd39f4145d1251d8e13fb"), looks := true }, kinds := [], alts := [], laidByText := true, laidKinds := [.data, .data, .data, .sentinel, .sentinel], laidTests := true, laidLooks := .later }
def ParseBracketsCardSaid : Prop := Claim7.holds Tryz.pinned (.plain (OpenSpec.ofChange parseBracketsSpec)) parseBracketsCard

/-- THE TIED CARD OF 'athanorlaw12.ParseSpread'. -/
def parseSpreadCard : Claim7 := { stood := { row := parseSpreadRow, standIns := [], harness := (true, "de352d070b515da3f966ff8b290421961e1dea6e12fbd39f4145d1251d8e13fb"), looks := true }, kinds := [], alts := [], laidByText := true, laidKinds := [.data, .data, .data, .sentinel, .sentinel], laidTests := true, laidLooks := .later }
def ParseSpreadCardSaid : Prop := Claim7.holds Tryz.pinned (.plain (OpenSpec.ofChange parseSpreadSpec)) parseSpreadCard

/-- THE TIED CARD OF 'athanorlaw12.ParseSame'. -/
def parseSameCard : Claim7 := { stood := { row := parseSameRow, standIns := [], harness := (true, "de352d070b515da3f966ff8b290421961e1dea6e12fbd39f4145d1251d8e13fb"), looks := true }, kinds := [], alts := [], laidByText := true, laidKinds := [.data, .data, .data, .sentinel, .sentinel], laidTests := true, laidLooks := .later }
def ParseSameCardSaid : Prop := Claim7.holds Tryz.pinned (.plain (OpenSpec.ofChange parseSameSpec)) parseSameCard

/-- THE TIED CARD OF 'athanorlaw12.ParseChecks'. -/
def parseChecksCard : Claim7 := { stood := { row := parseChecksRow, standIns := [], harness := (true, "de352d070b515da3f966ff8b290421961e1dea6e12fbd39f4145d1251d8e13fb"), looks := true }, kinds := [], alts := [], laidByText := true, laidKinds := [.data, .data, .data, .sentinel, .sentinel], laidTests := true, laidLooks := .later }
def ParseChecksCardSaid : Prop := Claim7.holds Tryz.pinned (.plain (OpenSpec.ofChange parseChecksSpec)) parseChecksCard

/-- THE TIED CARD OF 'athanorlaw12.ParseTakes'. -/
def parseTakesCard : Claim7 := { stood := { row := parseTakesRow, standIns := [], harness := (true, "de352d070b515da3f966ff8b290421961e1dea6e12fbd39f4145d1251d8e13fb"), looks := true }, kinds := [], alts := [], laidByText := true, laidKinds := [.data, .data, .data, .sentinel, .sentinel], laidTests := true, laidLooks := .later }
def ParseTakesCardSaid : Prop := Claim7.holds Tryz.pinned (.plain (OpenSpec.ofChange parseTakesSpec)) parseTakesCard

/-- THE TIED CARD OF 'athanorlaw14.ScopeChecks'. -/
def scopeChecksCard : Claim7 := { stood := { row := scopeChecksRow, standIns := [], harness := (true, "de352d070b515da3f966ff8b290421961e1dea6e12fbd39f4145d1251d8e13fb"), looks := true }, kinds := [], alts := [], laidByText := true, laidKinds := [.data, .data, .data, .sentinel, .sentinel], laidTests := true, laidLooks := .later }
def ScopeChecksCardSaid : Prop := Claim7.holds Tryz.pinned (.plain (OpenSpec.ofChange scopeChecksSpec)) scopeChecksCard

/-- THE TIED CARD OF 'athanorlaw14.ScopeFinds'. -/
def scopeFindsCard : Claim7 := { stood := { row := scopeFindsRow, standIns := [], harness := (true, "de352d070b515da3f966ff8b290421961e1dea6e12fbd39f4145d1251d8e13fb"), looks := true }, kinds := [], alts := [], laidByText := true, laidKinds := [.data, .data, .data, .sentinel, .sentinel], laidTests := true, laidLooks := .later }
def ScopeFindsCardSaid : Prop := Claim7.holds Tryz.pinned (.plain (OpenSpec.ofChange scopeFindsSpec)) scopeFindsCard

/-- THE TIED CARD OF 'athanorlaw14.ScopeFree'. -/
def scopeFreeCard : Claim7 := { stood := { row := scopeFreeRow, standIns := [], harness := (true, "de352d070b515da3f966ff8b290421961e1dea6e12fbd39f4145d1251d8e13fb"), looks := true }, kinds := [], alts := [], laidByText := true, laidKinds := [.data, .data, .data, .sentinel, .sentinel], laidTests := true, laidLooks := .later }
def ScopeFreeCardSaid : Prop := Claim7.holds Tryz.pinned (.plain (OpenSpec.ofChange scopeFreeSpec)) scopeFreeCard

/-- THE TIED CARD OF 'athanorlaw14.ScopeClosed'. -/
def scopeClosedCard : Claim7 := { stood := { row := scopeClosedRow, standIns := [], harness := (true, "de352d070b515da3f966ff8b290421961e1dea6e12fbd39f4145d1251d8e13fb"), looks := true }, kinds := [], alts := [], laidByText := true, laidKinds := [.data, .data, .data, .sentinel, .sentinel], laidTests := true, laidLooks := .later }
def ScopeClosedCardSaid : Prop := Claim7.holds Tryz.pinned (.plain (OpenSpec.ofChange scopeClosedSpec)) scopeClosedCard

/-- THE TIED CARD OF 'athanorlaw14.ScopeRenames'. -/
def scopeRenamesCard : Claim7 := { stood := { row := scopeRenamesRow, standIns := [], harness := (true, "de352d070b515da3f966ff8b290421961e1dea6e12fbd39f4145d1251d8e13fb"), looks := true }, kinds := [], alts := [], laidByText := true, laidKinds := [.data, .data, .data, .sentinel, .sentinel], laidTests := true, laidLooks := .later }
def ScopeRenamesCardSaid : Prop := Claim7.holds Tryz.pinned (.plain (OpenSpec.ofChange scopeRenamesSpec)) scopeRenamesCard

/-- THE TIED CARD OF 'athanorlaw14.ScopeParts'. -/
def scopePartsCard : Claim7 := { stood := { row := scopePartsRow, standIns := [], harness := (true, "de352d070b515da3f966ff8b290421961e1dea6e12fbd39f4145d1251d8e13fb"), looks := true }, kinds := [], alts := [], laidByText := true, laidKinds := [.data, .data, .data, .sentinel, .sentinel], laidTests := true, laidLooks := .later }
def ScopePartsCardSaid : Prop := Claim7.holds Tryz.pinned (.plain (OpenSpec.ofChange scopePartsSpec)) scopePartsCard

/-- THE SECOND FORM's CARD OF 'athanorlaw12.ParseReads'. -/
def parseReadsUptoCard : Claim7 := { stood := { row := parseReadsUptoRow, standIns := [], harness := (true, "de352d070b515da3f966ff8b290421961e1dea6e12fbd39f4145d1251d8e13fb"), looks := true }, kinds := [], alts := [], laidByText := true, laidKinds := [.data, .data, .data, .sentinel, .sentinel], laidTests := true, laidLooks := .later }
def ParseReadsUptoCardSaid : Prop := Claim7.holds Tryz.pinned (.plain (OpenSpec.upto parseReadsSpec)) parseReadsUptoCard

/-- THE SECOND FORM's CARD OF 'athanorlaw12.ParseBrackets'. -/
def parseBracketsUptoCard : Claim7 := { stood := { row := parseBracketsUptoRow, standIns := [], harness := (true, "de352d070b515da3f966ff8b290421961e1dea6e12fbd39f4145d1251d8e13fb"), looks := true }, kinds := [], alts := [], laidByText := true, laidKinds := [.data, .data, .data, .sentinel, .sentinel], laidTests := true, laidLooks := .later }
def ParseBracketsUptoCardSaid : Prop := Claim7.holds Tryz.pinned (.plain (OpenSpec.upto parseBracketsSpec)) parseBracketsUptoCard

/-- THE SECOND FORM's CARD OF 'athanorlaw12.ParseSpread'. -/
def parseSpreadUptoCard : Claim7 := { stood := { row := parseSpreadUptoRow, standIns := [], harness := (true, "de352d070b515da3f966ff8b290421961e1dea6e12fbd39f4145d1251d8e13fb"), looks := true }, kinds := [], alts := [], laidByText := true, laidKinds := [.data, .data, .data, .sentinel, .sentinel], laidTests := true, laidLooks := .later }
def ParseSpreadUptoCardSaid : Prop := Claim7.holds Tryz.pinned (.plain (OpenSpec.upto parseSpreadSpec)) parseSpreadUptoCard

/-- THE SECOND FORM's CARD OF 'athanorlaw12.ParseSame'. -/
def parseSameUptoCard : Claim7 := { stood := { row := parseSameUptoRow, standIns := [], harness := (true, "de352d070b515da3f966ff8b290421961e1dea6e12fbd39f4145d1251d8e13fb"), looks := true }, kinds := [], alts := [], laidByText := true, laidKinds := [.data, .data, .data, .sentinel, .sentinel], laidTests := true, laidLooks := .later }
def ParseSameUptoCardSaid : Prop := Claim7.holds Tryz.pinned (.plain (OpenSpec.upto parseSameSpec)) parseSameUptoCard

/-- THE SECOND FORM's CARD OF 'athanorlaw12.ParseChecks'. -/
def parseChecksUptoCard : Claim7 := { stood := { row := parseChecksUptoRow, standIns := [], harness := (true, "de352d070b515da3f966ff8b290421961e1dea6e12fbd39f4145d1251d8e13fb"), looks := true }, kinds := [], alts := [], laidByText := true, laidKinds := [.data, .data, .data, .sentinel, .sentinel], laidTests := true, laidLooks := .later }
def ParseChecksUptoCardSaid : Prop := Claim7.holds Tryz.pinned (.plain (OpenSpec.upto parseChecksSpec)) parseChecksUptoCard

/-- THE SECOND FORM's CARD OF 'athanorlaw12.ParseTakes'. -/
def parseTakesUptoCard : Claim7 := { stood := { row := parseTakesUptoRow, standIns := [], harness := (true, "de352d070b515da3f966ff8b290421961e1dea6e12fbd39f4145d1251d8e13fb"), looks := true }, kinds := [], alts := [], laidByText := true, laidKinds := [.data, .data, .data, .sentinel, .sentinel], laidTests := true, laidLooks := .later }
def ParseTakesUptoCardSaid : Prop := Claim7.holds Tryz.pinned (.plain (OpenSpec.upto parseTakesSpec)) parseTakesUptoCard

/-- THE SECOND FORM's CARD OF 'athanorlaw14.ScopeChecks'. -/
def scopeChecksUptoCard : Claim7 := { stood := { row := scopeChecksUptoRow, standIns := [], harness := (true, "de352d070b515da3f966ff8b290421961e1dea6e12fbd39f4145d1251d8e13fb"), looks := true }, kinds := [], alts := [], laidByText := true, laidKinds := [.data, .data, .data, .sentinel, .sentinel], laidTests := true, laidLooks := .later }
def ScopeChecksUptoCardSaid : Prop := Claim7.holds Tryz.pinned (.plain (OpenSpec.upto scopeChecksSpec)) scopeChecksUptoCard

/-- THE SECOND FORM's CARD OF 'athanorlaw14.ScopeFinds'. -/
def scopeFindsUptoCard : Claim7 := { stood := { row := scopeFindsUptoRow, standIns := [], harness := (true, "de352d070b515da3f966ff8b290421961e1dea6e12fbd39f4145d1251d8e13fb"), looks := true }, kinds := [], alts := [], laidByText := true, laidKinds := [.data, .data, .data, .sentinel, .sentinel], laidTests := true, laidLooks := .later }
def ScopeFindsUptoCardSaid : Prop := Claim7.holds Tryz.pinned (.plain (OpenSpec.upto scopeFindsSpec)) scopeFindsUptoCard

/-- THE SECOND FORM's CARD OF 'athanorlaw14.ScopeFree'. -/
def scopeFreeUptoCard : Claim7 := { stood := { row := scopeFreeUptoRow, standIns := [], harness := (true, "de352d070b515da3f966ff8b290421961e1dea6e12fbd39f4145d1251d8e13fb"), looks := true }, kinds := [], alts := [], laidByText := true, laidKinds := [.data, .data, .data, .sentinel, .sentinel], laidTests := true, laidLooks := .later }
def ScopeFreeUptoCardSaid : Prop := Claim7.holds Tryz.pinned (.plain (OpenSpec.upto scopeFreeSpec)) scopeFreeUptoCard

/-- THE SECOND FORM's CARD OF 'athanorlaw14.ScopeClosed'. -/
def scopeClosedUptoCard : Claim7 := { stood := { row := scopeClosedUptoRow, standIns := [], harness := (true, "de352d070b515da3f966ff8b290421961e1dea6e12fbd39f4145d1251d8e13fb"), looks := true }, kinds := [], alts := [], laidByText := true, laidKinds := [.data, .data, .data, .sentinel, .sentinel], laidTests := true, laidLooks := .later }
def ScopeClosedUptoCardSaid : Prop := Claim7.holds Tryz.pinned (.plain (OpenSpec.upto scopeClosedSpec)) scopeClosedUptoCard

/-- THE SECOND FORM's CARD OF 'athanorlaw14.ScopeRenames'. -/
def scopeRenamesUptoCard : Claim7 := { stood := { row := scopeRenamesUptoRow, standIns := [], harness := (true, "de352d070b515da3f966ff8b290421961e1dea6e12fbd39f4145d1251d8e13fb"), looks := true }, kinds := [], alts := [], laidByText := true, laidKinds := [.data, .data, .data, .sentinel, .sentinel], laidTests := true, laidLooks := .later }
def ScopeRenamesUptoCardSaid : Prop := Claim7.holds Tryz.pinned (.plain (OpenSpec.upto scopeRenamesSpec)) scopeRenamesUptoCard

/-- THE SECOND FORM's CARD OF 'athanorlaw14.ScopeParts'. -/
def scopePartsUptoCard : Claim7 := { stood := { row := scopePartsUptoRow, standIns := [], harness := (true, "de352d070b515da3f966ff8b290421961e1dea6e12fbd39f4145d1251d8e13fb"), looks := true }, kinds := [], alts := [], laidByText := true, laidKinds := [.data, .data, .data, .sentinel, .sentinel], laidTests := true, laidLooks := .later }
def ScopePartsUptoCardSaid : Prop := Claim7.holds Tryz.pinned (.plain (OpenSpec.upto scopePartsSpec)) scopePartsUptoCard
end Rows
end Go.Proofs.YtgmapdcdmomioaaGreatDoor
