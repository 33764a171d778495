/-
  DERIVED. GIVEN WITH THE SEED: THE CARDS: each row of YtiheejdkkjfenaaGreatDoorRows.lean that lists a variable, with what it lists TIED to the program's text (the seventh form; the later family's looks); each row that meets fmt, with fmt's text TOLD by the authors' own Lean function (tested against real Go, not proved from fmt's source: count such statements apart). THE CARD IS WHAT COUNTS. Prove the row's statement (the work); the ties are given (YtiheejdkkjfenaaGreatDoorTie.lean); close each card by the builder's one call (the guide's Derived/Test/ToyasCard.lean, 'card_holds'). Laid BY PROGRAM, IN A SANDBOX (cutbox-door.mjs). By AI agents, Wed Nov 11 2026. No macro, syntax, notation, axiom, sorry.
-/
import Derived.Test.YtiheejdkkjfenaaGreatDoorRows
import GoSem.ClaimSeven
namespace Go.Proofs.YtiheejdkkjfenaaGreatDoor
namespace Rows

/-- THE TIED CARD OF 'athanorlaw17.UsefulChecks'. -/
def usefulChecksCard : Claim7 := { stood := { row := usefulChecksRow, standIns := [], harness := (true, "b035580d7f9ffd373bc90b0f08aa3e186b7ea938fbcb24f96f786ef5d784bdb0"), looks := true }, kinds := [], alts := [], laidByText := true, laidKinds := [.data, .data, .data, .sentinel, .sentinel], laidTests := true, laidLooks := .later }
def UsefulChecksCardSaid : Prop := Claim7.holds Tryz.pinned (.plain (OpenSpec.ofChange usefulChecksSpec)) usefulChecksCard

/-- THE TIED CARD OF 'athanorlaw17.UsefulTurned'. -/
def usefulTurnedCard : Claim7 := { stood := { row := usefulTurnedRow, standIns := [], harness := (true, "b035580d7f9ffd373bc90b0f08aa3e186b7ea938fbcb24f96f786ef5d784bdb0"), looks := true }, kinds := [], alts := [], laidByText := true, laidKinds := [.data, .data, .data, .sentinel, .sentinel], laidTests := true, laidLooks := .later }
def UsefulTurnedCardSaid : Prop := Claim7.holds Tryz.pinned (.plain (OpenSpec.ofChange usefulTurnedSpec)) usefulTurnedCard

/-- THE TIED CARD OF 'athanorlaw17.UsefulMeets'. -/
def usefulMeetsCard : Claim7 := { stood := { row := usefulMeetsRow, standIns := [], harness := (true, "b035580d7f9ffd373bc90b0f08aa3e186b7ea938fbcb24f96f786ef5d784bdb0"), looks := true }, kinds := [], alts := [], laidByText := true, laidKinds := [.data, .data, .data, .sentinel, .sentinel], laidTests := true, laidLooks := .later }
def UsefulMeetsCardSaid : Prop := Claim7.holds Tryz.pinned (.plain (OpenSpec.ofChange usefulMeetsSpec)) usefulMeetsCard

/-- THE TIED CARD OF 'athanorlaw17.UsefulTrue'. -/
def usefulTrueCard : Claim7 := { stood := { row := usefulTrueRow, standIns := [], harness := (true, "b035580d7f9ffd373bc90b0f08aa3e186b7ea938fbcb24f96f786ef5d784bdb0"), looks := true }, kinds := [], alts := [], laidByText := true, laidKinds := [.data, .data, .data, .sentinel, .sentinel], laidTests := true, laidLooks := .later }
def UsefulTrueCardSaid : Prop := Claim7.holds Tryz.pinned (.plain (OpenSpec.ofChange usefulTrueSpec)) usefulTrueCard

/-- THE SECOND FORM's CARD OF 'athanorlaw17.UsefulChecks'. -/
def usefulChecksUptoCard : Claim7 := { stood := { row := usefulChecksUptoRow, standIns := [], harness := (true, "b035580d7f9ffd373bc90b0f08aa3e186b7ea938fbcb24f96f786ef5d784bdb0"), looks := true }, kinds := [], alts := [], laidByText := true, laidKinds := [.data, .data, .data, .sentinel, .sentinel], laidTests := true, laidLooks := .later }
def UsefulChecksUptoCardSaid : Prop := Claim7.holds Tryz.pinned (.plain (OpenSpec.upto usefulChecksSpec)) usefulChecksUptoCard

/-- THE SECOND FORM's CARD OF 'athanorlaw17.UsefulTurned'. -/
def usefulTurnedUptoCard : Claim7 := { stood := { row := usefulTurnedUptoRow, standIns := [], harness := (true, "b035580d7f9ffd373bc90b0f08aa3e186b7ea938fbcb24f96f786ef5d784bdb0"), looks := true }, kinds := [], alts := [], laidByText := true, laidKinds := [.data, .data, .data, .sentinel, .sentinel], laidTests := true, laidLooks := .later }
def UsefulTurnedUptoCardSaid : Prop := Claim7.holds Tryz.pinned (.plain (OpenSpec.upto usefulTurnedSpec)) usefulTurnedUptoCard

/-- THE SECOND FORM's CARD OF 'athanorlaw17.UsefulMeets'. -/
def usefulMeetsUptoCard : Claim7 := { stood := { row := usefulMeetsUptoRow, standIns := [], harness := (true, "b035580d7f9ffd373bc90b0f08aa3e186b7ea938fbcb24f96f786ef5d784bdb0"), looks := true }, kinds := [], alts := [], laidByText := true, laidKinds := [.data, .data, .data, .sentinel, .sentinel], laidTests := true, laidLooks := .later }
def UsefulMeetsUptoCardSaid : Prop := Claim7.holds Tryz.pinned (.plain (OpenSpec.upto usefulMeetsSpec)) usefulMeetsUptoCard

/-- THE SECOND FORM's CARD OF 'athanorlaw17.UsefulTrue'. -/
def usefulTrueUptoCard : Claim7 := { stood := { row := usefulTrueUptoRow, standIns := [], harness := (true, "b035580d7f9ffd373bc90b0f08aa3e186b7ea938fbcb24f96f786ef5d784bdb0"), looks := true }, kinds := [], alts := [], laidByText := true, laidKinds := [.data, .data, .data, .sentinel, .sentinel], laidTests := true, laidLooks := .later }
def UsefulTrueUptoCardSaid : Prop := Claim7.holds Tryz.pinned (.plain (OpenSpec.upto usefulTrueSpec)) usefulTrueUptoCard
end Rows
end Go.Proofs.YtiheejdkkjfenaaGreatDoor
