/-
  DERIVED. GIVEN WITH THE SEED: THE CARDS: each row of YtkdbobccchkdjaaDoorRows.lean that lists a variable, with what it lists TIED to the program's text (the seventh form; the later family's looks); each row that meets fmt, with fmt's text TOLD by the authors' own Lean function (tested against real Go, not proved from fmt's source: count such statements apart). THE CARD IS WHAT COUNTS. Prove the row's statement (the work); the ties are given (YtkdbobccchkdjaaDoorTie.lean); close each card by the builder's one call (the guide's Derived/Test/ToyasCard.lean, 'card_holds'). Laid BY PROGRAM, IN A SANDBOX (cutbox-door.mjs). By AI agents, Wed Nov 11 2026. No macro, syntax, notation, axiom, sorry.
-/
import Derived.Test.YtkdbobccchkdjaaDoorRows
import GoSem.ClaimSeven
namespace Go.Proofs.YtkdbobccchkdjaaDoor
namespace Rows

/-- THE TIED CARD OF 'palaverlaw03.WotsDigits'. -/
def wotsDigitsCard : Claim7 := { stood := { row := wotsDigitsRow, standIns := [], harness := (true, "0824933e1ed5f7965ed5e1df2d2d930d6b87739ad3744a9df54660ee3b4481ca"), looks := false }, kinds := [], alts := [], laidByText := true, laidKinds := [.data], laidTests := true, laidLooks := .later }
def WotsDigitsCardSaid : Prop := Claim7.holds Tryd.pinned (.plain (OpenSpec.ofChange wotsDigitsSpec)) wotsDigitsCard

/-- THE TIED CARD OF 'palaverlaw03.WotsLower'. -/
def wotsLowerCard : Claim7 := { stood := { row := wotsLowerRow, standIns := [], harness := (true, "0824933e1ed5f7965ed5e1df2d2d930d6b87739ad3744a9df54660ee3b4481ca"), looks := false }, kinds := [], alts := [], laidByText := true, laidKinds := [.data], laidTests := true, laidLooks := .later }
def WotsLowerCardSaid : Prop := Claim7.holds Tryd.pinned (.plain (OpenSpec.ofChange wotsLowerSpec)) wotsLowerCard

/-- THE TIED CARD OF 'palaverlaw03.WotsChains'. -/
def wotsChainsCard : Claim7 := { stood := { row := wotsChainsRow, standIns := [], harness := (true, "0824933e1ed5f7965ed5e1df2d2d930d6b87739ad3744a9df54660ee3b4481ca"), looks := false }, kinds := [], alts := [], laidByText := true, laidKinds := [.data], laidTests := true, laidLooks := .later }
def WotsChainsCardSaid : Prop := Claim7.holds Tryd.pinned (.plain (OpenSpec.ofChange wotsChainsSpec)) wotsChainsCard

/-- THE TIED CARD OF 'palaverlaw03.WotsRecovers'. -/
def wotsRecoversCard : Claim7 := { stood := { row := wotsRecoversRow, standIns := [], harness := (true, "0824933e1ed5f7965ed5e1df2d2d930d6b87739ad3744a9df54660ee3b4481ca"), looks := false }, kinds := [], alts := [], laidByText := true, laidKinds := [.data], laidTests := true, laidLooks := .later }
def WotsRecoversCardSaid : Prop := Claim7.holds Tryd.pinned (.plain (OpenSpec.ofChange wotsRecoversSpec)) wotsRecoversCard

/-- THE TIED CARD OF 'palaverlaw03.WotsPublics'. -/
def wotsPublicsCard : Claim7 := { stood := { row := wotsPublicsRow, standIns := [], harness := (true, "0824933e1ed5f7965ed5e1df2d2d930d6b87739ad3744a9df54660ee3b4481ca"), looks := false }, kinds := [], alts := [], laidByText := true, laidKinds := [.data], laidTests := true, laidLooks := .later }
def WotsPublicsCardSaid : Prop := Claim7.holds Tryd.pinned (.plain (OpenSpec.ofChange wotsPublicsSpec)) wotsPublicsCard

/-- THE TIED CARD OF 'palaverlaw03.WotsSigns'. -/
def wotsSignsCard : Claim7 := { stood := { row := wotsSignsRow, standIns := [], harness := (true, "0824933e1ed5f7965ed5e1df2d2d930d6b87739ad3744a9df54660ee3b4481ca"), looks := false }, kinds := [], alts := [], laidByText := true, laidKinds := [.data], laidTests := true, laidLooks := .later }
def WotsSignsCardSaid : Prop := Claim7.holds Tryd.pinned (.plain (OpenSpec.ofChange wotsSignsSpec)) wotsSignsCard

/-- THE TIED CARD OF 'palaverlaw03.WotsTurned'. -/
def wotsTurnedCard : Claim7 := { stood := { row := wotsTurnedRow, standIns := [], harness := (true, "0824933e1ed5f7965ed5e1df2d2d930d6b87739ad3744a9df54660ee3b4481ca"), looks := false }, kinds := [], alts := [], laidByText := true, laidKinds := [.data], laidTests := true, laidLooks := .later }
def WotsTurnedCardSaid : Prop := Claim7.holds Tryd.pinned (.plain (OpenSpec.ofChange wotsTurnedSpec)) wotsTurnedCard

/-- THE TIED CARD OF 'palaverlaw03.WotsBack'. -/
def wotsBackCard : Claim7 := { stood := { row := wotsBackRow, standIns := [], harness := (true, "0824933e1ed5f7965ed5e1df2d2d930d6b87739ad3744a9df54660ee3b4481ca"), looks := false }, kinds := [], alts := [], laidByText := true, laidKinds := [.data], laidTests := true, laidLooks := .later }
def WotsBackCardSaid : Prop := Claim7.holds Tryd.pinned (.plain (OpenSpec.ofChange wotsBackSpec)) wotsBackCard

/-- THE SECOND FORM's CARD OF 'palaverlaw03.WotsDigits'. -/
def wotsDigitsUptoCard : Claim7 := { stood := { row := wotsDigitsUptoRow, standIns := [], harness := (true, "0824933e1ed5f7965ed5e1df2d2d930d6b87739ad3744a9df54660ee3b4481ca"), looks := false }, kinds := [], alts := [], laidByText := true, laidKinds := [.data], laidTests := true, laidLooks := .later }
def WotsDigitsUptoCardSaid : Prop := Claim7.holds Tryd.pinned (.plain (OpenSpec.upto wotsDigitsSpec)) wotsDigitsUptoCard

/-- THE SECOND FORM's CARD OF 'palaverlaw03.WotsLower'. -/
def wotsLowerUptoCard : Claim7 := { stood := { row := wotsLowerUptoRow, standIns := [], harness := (true, "0824933e1ed5f7965ed5e1df2d2d930d6b87739ad3744a9df54660ee3b4481ca"), looks := false }, kinds := [], alts := [], laidByText := true, laidKinds := [.data], laidTests := true, laidLooks := .later }
def WotsLowerUptoCardSaid : Prop := Claim7.holds Tryd.pinned (.plain (OpenSpec.upto wotsLowerSpec)) wotsLowerUptoCard

/-- THE SECOND FORM's CARD OF 'palaverlaw03.WotsChains'. -/
def wotsChainsUptoCard : Claim7 := { stood := { row := wotsChainsUptoRow, standIns := [], harness := (true, "0824933e1ed5f7965ed5e1df2d2d930d6b87739ad3744a9df54660ee3b4481ca"), looks := false }, kinds := [], alts := [], laidByText := true, laidKinds := [.data], laidTests := true, laidLooks := .later }
def WotsChainsUptoCardSaid : Prop := Claim7.holds Tryd.pinned (.plain (OpenSpec.upto wotsChainsSpec)) wotsChainsUptoCard

/-- THE SECOND FORM's CARD OF 'palaverlaw03.WotsRecovers'. -/
def wotsRecoversUptoCard : Claim7 := { stood := { row := wotsRecoversUptoRow, standIns := [], harness := (true, "0824933e1ed5f7965ed5e1df2d2d930d6b87739ad3744a9df54660ee3b4481ca"), looks := false }, kinds := [], alts := [], laidByText := true, laidKinds := [.data], laidTests := true, laidLooks := .later }
def WotsRecoversUptoCardSaid : Prop := Claim7.holds Tryd.pinned (.plain (OpenSpec.upto wotsRecoversSpec)) wotsRecoversUptoCard

/-- THE SECOND FORM's CARD OF 'palaverlaw03.WotsPublics'. -/
def wotsPublicsUptoCard : Claim7 := { stood := { row := wotsPublicsUptoRow, standIns := [], harness := (true, "0824933e1ed5f7965ed5e1df2d2d930d6b87739ad3744a9df54660ee3b4481ca"), looks := false }, kinds := [], alts := [], laidByText := true, laidKinds := [.data], laidTests := true, laidLooks := .later }
def WotsPublicsUptoCardSaid : Prop := Claim7.holds Tryd.pinned (.plain (OpenSpec.upto wotsPublicsSpec)) wotsPublicsUptoCard

/-- THE SECOND FORM's CARD OF 'palaverlaw03.WotsSigns'. -/
def wotsSignsUptoCard : Claim7 := { stood := { row := wotsSignsUptoRow, standIns := [], harness := (true, "0824933e1ed5f7965ed5e1df2d2d930d6b87739ad3744a9df54660ee3b4481ca"), looks := false }, kinds := [], alts := [], laidByText := true, laidKinds := [.data], laidTests := true, laidLooks := .later }
def WotsSignsUptoCardSaid : Prop := Claim7.holds Tryd.pinned (.plain (OpenSpec.upto wotsSignsSpec)) wotsSignsUptoCard

/-- THE SECOND FORM's CARD OF 'palaverlaw03.WotsTurned'. -/
def wotsTurnedUptoCard : Claim7 := { stood := { row := wotsTurnedUptoRow, standIns := [], harness := (true, "0824933e1ed5f7965ed5e1df2d2d930d6b87739ad3744a9df54660ee3b4481ca"), looks := false }, kinds := [], alts := [], laidByText := true, laidKinds := [.data], laidTests := true, laidLooks := .later }
def WotsTurnedUptoCardSaid : Prop := Claim7.holds Tryd.pinned (.plain (OpenSpec.upto wotsTurnedSpec)) wotsTurnedUptoCard

/-- THE SECOND FORM's CARD OF 'palaverlaw03.WotsBack'. -/
def wotsBackUptoCard : Claim7 := { stood := { row := wotsBackUptoRow, standIns := [], harness := (true, "0824933e1ed5f7965ed5e1df2d2d930d6b87739ad3744a9df54660ee3b4481ca"), looks := false }, kinds := [], alts := [], laidByText := true, laidKinds := [.data], laidTests := true, laidLooks := .later }
def WotsBackUptoCardSaid : Prop := Claim7.holds Tryd.pinned (.plain (OpenSpec.upto wotsBackSpec)) wotsBackUptoCard
end Rows
end Go.Proofs.YtkdbobccchkdjaaDoor
