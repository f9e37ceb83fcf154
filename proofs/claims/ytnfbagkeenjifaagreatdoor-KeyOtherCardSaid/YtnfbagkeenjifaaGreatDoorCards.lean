/-
  DERIVED. GIVEN WITH THE SEED: THE CARDS: each row of YtnfbagkeenjifaaGreatDoorRows.lean that lists a variable, with what it lists TIED to the program's text (the seventh form; the later family's looks); each row that meets fmt, with fmt's text TOLD by the authors' own Lean function (tested against real Go, not proved from fmt's source: count such statements apart). THE CARD IS WHAT COUNTS. Prove the row's statement (the work); the ties are given (YtnfbagkeenjifaaGreatDoorTie.lean); close each card by the builder's one call (the guide's Derived/Test/ToyasCard.lean, 'card_holds'). Laid BY PROGRAM, IN A SANDBOX (cutbox-door.mjs). By AI agents, Wed Nov 11 2026. No macro, syntax, notation, axiom, sorry.
-/
import Derived.Test.YtnfbagkeenjifaaGreatDoorRows
import GoSem.ClaimSeven
namespace Go.Proofs.YtnfbagkeenjifaaGreatDoor
namespace Rows

/-- THE TIED CARD OF 'palaverlaw05.KeyVerifies'. -/
def keyVerifiesCard : Claim7 := { stood := { row := keyVerifiesRow, standIns := [], harness := (true, "15e1d83b8a2111916688d3ccca1a9d409c734b5dd684c763afa7d22df15f76ae"), looks := false }, kinds := [], alts := [], laidByText := true, laidKinds := [.data], laidTests := true, laidLooks := .later }
def KeyVerifiesCardSaid : Prop := Claim7.holds Tryz.pinned (.plain (OpenSpec.ofChange keyVerifiesSpec)) keyVerifiesCard

/-- THE TIED CARD OF 'palaverlaw05.KeyTurned'. -/
def keyTurnedCard : Claim7 := { stood := { row := keyTurnedRow, standIns := [], harness := (true, "15e1d83b8a2111916688d3ccca1a9d409c734b5dd684c763afa7d22df15f76ae"), looks := false }, kinds := [], alts := [], laidByText := true, laidKinds := [.data], laidTests := true, laidLooks := .later }
def KeyTurnedCardSaid : Prop := Claim7.holds Tryz.pinned (.plain (OpenSpec.ofChange keyTurnedSpec)) keyTurnedCard

/-- THE TIED CARD OF 'palaverlaw05.KeyOther'. -/
def keyOtherCard : Claim7 := { stood := { row := keyOtherRow, standIns := [], harness := (true, "15e1d83b8a2111916688d3ccca1a9d409c734b5dd684c763afa7d22df15f76ae"), looks := false }, kinds := [], alts := [], laidByText := true, laidKinds := [.data], laidTests := true, laidLooks := .later }
def KeyOtherCardSaid : Prop := Claim7.holds Tryz.pinned (.plain (OpenSpec.ofChange keyOtherSpec)) keyOtherCard

/-- THE TIED CARD OF 'palaverlaw05.KeySpends'. -/
def keySpendsCard : Claim7 := { stood := { row := keySpendsRow, standIns := [], harness := (true, "15e1d83b8a2111916688d3ccca1a9d409c734b5dd684c763afa7d22df15f76ae"), looks := false }, kinds := [], alts := [], laidByText := true, laidKinds := [.data], laidTests := true, laidLooks := .later }
def KeySpendsCardSaid : Prop := Claim7.holds Tryz.pinned (.plain (OpenSpec.ofChange keySpendsSpec)) keySpendsCard

/-- THE TIED CARD OF 'palaverlaw06.EventTurned'. -/
def eventTurnedCard : Claim7 := { stood := { row := eventTurnedRow, standIns := [], harness := (true, "15e1d83b8a2111916688d3ccca1a9d409c734b5dd684c763afa7d22df15f76ae"), looks := false }, kinds := [], alts := [], laidByText := true, laidKinds := [.data], laidTests := true, laidLooks := .later }
def EventTurnedCardSaid : Prop := Claim7.holds Tryz.pinned (.plain (OpenSpec.ofChange eventTurnedSpec)) eventTurnedCard

/-- THE TIED CARD OF 'palaverlaw06.EventSigns'. -/
def eventSignsCard : Claim7 := { stood := { row := eventSignsRow, standIns := [], harness := (true, "15e1d83b8a2111916688d3ccca1a9d409c734b5dd684c763afa7d22df15f76ae"), looks := false }, kinds := [], alts := [], laidByText := true, laidKinds := [.data], laidTests := true, laidLooks := .later }
def EventSignsCardSaid : Prop := Claim7.holds Tryz.pinned (.plain (OpenSpec.ofChange eventSignsSpec)) eventSignsCard

/-- THE SECOND FORM's CARD OF 'palaverlaw05.KeyVerifies'. -/
def keyVerifiesUptoCard : Claim7 := { stood := { row := keyVerifiesUptoRow, standIns := [], harness := (true, "15e1d83b8a2111916688d3ccca1a9d409c734b5dd684c763afa7d22df15f76ae"), looks := false }, kinds := [], alts := [], laidByText := true, laidKinds := [.data], laidTests := true, laidLooks := .later }
def KeyVerifiesUptoCardSaid : Prop := Claim7.holds Tryz.pinned (.plain (OpenSpec.upto keyVerifiesSpec)) keyVerifiesUptoCard

/-- THE SECOND FORM's CARD OF 'palaverlaw05.KeyTurned'. -/
def keyTurnedUptoCard : Claim7 := { stood := { row := keyTurnedUptoRow, standIns := [], harness := (true, "15e1d83b8a2111916688d3ccca1a9d409c734b5dd684c763afa7d22df15f76ae"), looks := false }, kinds := [], alts := [], laidByText := true, laidKinds := [.data], laidTests := true, laidLooks := .later }
def KeyTurnedUptoCardSaid : Prop := Claim7.holds Tryz.pinned (.plain (OpenSpec.upto keyTurnedSpec)) keyTurnedUptoCard

/-- THE SECOND FORM's CARD OF 'palaverlaw05.KeyOther'. -/
def keyOtherUptoCard : Claim7 := { stood := { row := keyOtherUptoRow, standIns := [], harness := (true, "15e1d83b8a2111916688d3ccca1a9d409c734b5dd684c763afa7d22df15f76ae"), looks := false }, kinds := [], alts := [], laidByText := true, laidKinds := [.data], laidTests := true, laidLooks := .later }
def KeyOtherUptoCardSaid : Prop := Claim7.holds Tryz.pinned (.plain (OpenSpec.upto keyOtherSpec)) keyOtherUptoCard

/-- THE SECOND FORM's CARD OF 'palaverlaw05.KeySpends'. -/
def keySpendsUptoCard : Claim7 := { stood := { row := keySpendsUptoRow, standIns := [], harness := (true, "15e1d83b8a2111916688d3ccca1a9d409c734b5dd684c763afa7d22df15f76ae"), looks := false }, kinds := [], alts := [], laidByText := true, laidKinds := [.data], laidTests := true, laidLooks := .later }
def KeySpendsUptoCardSaid : Prop := Claim7.holds Tryz.pinned (.plain (OpenSpec.upto keySpendsSpec)) keySpendsUptoCard

/-- THE SECOND FORM's CARD OF 'palaverlaw06.EventTurned'. -/
def eventTurnedUptoCard : Claim7 := { stood := { row := eventTurnedUptoRow, standIns := [], harness := (true, "15e1d83b8a2111916688d3ccca1a9d409c734b5dd684c763afa7d22df15f76ae"), looks := false }, kinds := [], alts := [], laidByText := true, laidKinds := [.data], laidTests := true, laidLooks := .later }
def EventTurnedUptoCardSaid : Prop := Claim7.holds Tryz.pinned (.plain (OpenSpec.upto eventTurnedSpec)) eventTurnedUptoCard

/-- THE SECOND FORM's CARD OF 'palaverlaw06.EventSigns'. -/
def eventSignsUptoCard : Claim7 := { stood := { row := eventSignsUptoRow, standIns := [], harness := (true, "15e1d83b8a2111916688d3ccca1a9d409c734b5dd684c763afa7d22df15f76ae"), looks := false }, kinds := [], alts := [], laidByText := true, laidKinds := [.data], laidTests := true, laidLooks := .later }
def EventSignsUptoCardSaid : Prop := Claim7.holds Tryz.pinned (.plain (OpenSpec.upto eventSignsSpec)) eventSignsUptoCard
end Rows
end Go.Proofs.YtnfbagkeenjifaaGreatDoor
