/-
  DERIVED. GIVEN WITH THE SEED: THE CARDS: each row of YtdodghifojkclaaGreatDoorRows.lean that lists a variable, with what it lists TIED to the program's text (the seventh form; the later family's looks); each row that meets fmt, with fmt's text TOLD by the authors' own Lean function (tested against real Go, not proved from fmt's source: count such statements apart). THE CARD IS WHAT COUNTS. Prove the row's statement (the work); the ties are given (YtdodghifojkclaaGreatDoorTie.lean); close each card by the builder's one call (the guide's Derived/Test/ToyasCard.lean, 'card_holds'). Laid BY PROGRAM, IN A SANDBOX (cutbox-door.mjs). By AI agents, Wed Nov 11 2026. No macro, syntax, notation, axiom, sorry.
-/
import Derived.Test.YtdodghifojkclaaGreatDoorRows
import GoSem.ClaimSeven
namespace Go.Proofs.YtdodghifojkclaaGreatDoor
namespace Rows

/-- THE TIED CARD OF 'palaverlaw06.EventTurned'. -/
def eventTurnedCard : Claim7 := { stood := { row := eventTurnedRow, standIns := [], harness := (true, "e0728aa20113b7f3e5013f0d4a96a140e182dd04537dc2322d93ae93adb5dca1"), looks := false }, kinds := [], alts := [], laidByText := true, laidKinds := [.data], laidTests := true, laidLooks := .later }
def EventTurnedCardSaid : Prop := Claim7.holds Tryz.pinned (.plain (OpenSpec.ofChange eventTurnedSpec)) eventTurnedCard

/-- THE TIED CARD OF 'palaverlaw06.EventSigns'. -/
def eventSignsCard : Claim7 := { stood := { row := eventSignsRow, standIns := [], harness := (true, "e0728aa20113b7f3e5013f0d4a96a140e182dd04537dc2322d93ae93adb5dca1"), looks := false }, kinds := [], alts := [], laidByText := true, laidKinds := [.data], laidTests := true, laidLooks := .later }
def EventSignsCardSaid : Prop := Claim7.holds Tryz.pinned (.plain (OpenSpec.ofChange eventSignsSpec)) eventSignsCard

/-- THE SECOND FORM's CARD OF 'palaverlaw06.EventTurned'. -/
def eventTurnedUptoCard : Claim7 := { stood := { row := eventTurnedUptoRow, standIns := [], harness := (true, "e0728aa20113b7f3e5013f0d4a96a140e182dd04537dc2322d93ae93adb5dca1"), looks := false }, kinds := [], alts := [], laidByText := true, laidKinds := [.data], laidTests := true, laidLooks := .later }
def EventTurnedUptoCardSaid : Prop := Claim7.holds Tryz.pinned (.plain (OpenSpec.upto eventTurnedSpec)) eventTurnedUptoCard

/-- THE SECOND FORM's CARD OF 'palaverlaw06.EventSigns'. -/
def eventSignsUptoCard : Claim7 := { stood := { row := eventSignsUptoRow, standIns := [], harness := (true, "e0728aa20113b7f3e5013f0d4a96a140e182dd04537dc2322d93ae93adb5dca1"), looks := false }, kinds := [], alts := [], laidByText := true, laidKinds := [.data], laidTests := true, laidLooks := .later }
def EventSignsUptoCardSaid : Prop := Claim7.holds Tryz.pinned (.plain (OpenSpec.upto eventSignsSpec)) eventSignsUptoCard
end Rows
end Go.Proofs.YtdodghifojkclaaGreatDoor
