/-
  DERIVED. GIVEN WITH THE SEED: THE CARDS: each row of YtmedpnclkbkiiaaDoorRows.lean that lists a variable, with what it lists TIED to the program's text (the seventh form; the later family's looks); each row that meets fmt, with fmt's text TOLD by the authors' own Lean function (tested against real Go, not proved from fmt's source: count such statements apart). THE CARD IS WHAT COUNTS. Prove the row's statement (the work); the ties are given (YtmedpnclkbkiiaaDoorTie.lean); close each card by the builder's one call (the guide's Derived/Test/ToyasCard.lean, 'card_holds'). Laid BY PROGRAM, IN A SANDBOX (cutbox-door.mjs). By AI agents, Wed Nov 11 2026. No macro, syntax, notation, axiom, sorry.
-/
import Derived.Test.YtmedpnclkbkiiaaDoorRows
import GoSem.ClaimSeven
namespace Go.Proofs.YtmedpnclkbkiiaaDoor
namespace Rows

/-- THE TIED CARD OF 'palaverlaw06.EventRights'. -/
def eventRightsCard : Claim7 := { stood := { row := eventRightsRow, standIns := [], harness := (true, "64f01a6f607dcc4664f0101348926a95f14446f1e98d45e19886211b322256f7"), looks := false }, kinds := [], alts := [], laidByText := true, laidKinds := [.data], laidTests := true, laidLooks := .later }
def EventRightsCardSaid : Prop := Claim7.holds Tryd.pinned (.plain (OpenSpec.ofChange eventRightsSpec)) eventRightsCard

/-- THE TIED CARD OF 'palaverlaw06.EventDecodes'. -/
def eventDecodesCard : Claim7 := { stood := { row := eventDecodesRow, standIns := [], harness := (true, "64f01a6f607dcc4664f0101348926a95f14446f1e98d45e19886211b322256f7"), looks := false }, kinds := [], alts := [], laidByText := true, laidKinds := [.data], laidTests := true, laidLooks := .later }
def EventDecodesCardSaid : Prop := Claim7.holds Tryd.pinned (.plain (OpenSpec.ofChange eventDecodesSpec)) eventDecodesCard

/-- THE TIED CARD OF 'palaverlaw06.EventBack'. -/
def eventBackCard : Claim7 := { stood := { row := eventBackRow, standIns := [], harness := (true, "64f01a6f607dcc4664f0101348926a95f14446f1e98d45e19886211b322256f7"), looks := false }, kinds := [], alts := [], laidByText := true, laidKinds := [.data], laidTests := true, laidLooks := .later }
def EventBackCardSaid : Prop := Claim7.holds Tryd.pinned (.plain (OpenSpec.ofChange eventBackSpec)) eventBackCard

/-- THE TIED CARD OF 'palaverlaw06.EventAgain'. -/
def eventAgainCard : Claim7 := { stood := { row := eventAgainRow, standIns := [], harness := (true, "64f01a6f607dcc4664f0101348926a95f14446f1e98d45e19886211b322256f7"), looks := false }, kinds := [], alts := [], laidByText := true, laidKinds := [.data], laidTests := true, laidLooks := .later }
def EventAgainCardSaid : Prop := Claim7.holds Tryd.pinned (.plain (OpenSpec.ofChange eventAgainSpec)) eventAgainCard

/-- THE TIED CARD OF 'palaverlaw06.EventChecks'. -/
def eventChecksCard : Claim7 := { stood := { row := eventChecksRow, standIns := [], harness := (true, "64f01a6f607dcc4664f0101348926a95f14446f1e98d45e19886211b322256f7"), looks := false }, kinds := [], alts := [], laidByText := true, laidKinds := [.data], laidTests := true, laidLooks := .later }
def EventChecksCardSaid : Prop := Claim7.holds Tryd.pinned (.plain (OpenSpec.ofChange eventChecksSpec)) eventChecksCard

/-- THE TIED CARD OF 'palaverlaw06.EventNone'. -/
def eventNoneCard : Claim7 := { stood := { row := eventNoneRow, standIns := [], harness := (true, "64f01a6f607dcc4664f0101348926a95f14446f1e98d45e19886211b322256f7"), looks := false }, kinds := [], alts := [], laidByText := true, laidKinds := [.data], laidTests := true, laidLooks := .later }
def EventNoneCardSaid : Prop := Claim7.holds Tryd.pinned (.plain (OpenSpec.ofChange eventNoneSpec)) eventNoneCard

/-- THE SECOND FORM's CARD OF 'palaverlaw06.EventRights'. -/
def eventRightsUptoCard : Claim7 := { stood := { row := eventRightsUptoRow, standIns := [], harness := (true, "64f01a6f607dcc4664f0101348926a95f14446f1e98d45e19886211b322256f7"), looks := false }, kinds := [], alts := [], laidByText := true, laidKinds := [.data], laidTests := true, laidLooks := .later }
def EventRightsUptoCardSaid : Prop := Claim7.holds Tryd.pinned (.plain (OpenSpec.upto eventRightsSpec)) eventRightsUptoCard

/-- THE SECOND FORM's CARD OF 'palaverlaw06.EventDecodes'. -/
def eventDecodesUptoCard : Claim7 := { stood := { row := eventDecodesUptoRow, standIns := [], harness := (true, "64f01a6f607dcc4664f0101348926a95f14446f1e98d45e19886211b322256f7"), looks := false }, kinds := [], alts := [], laidByText := true, laidKinds := [.data], laidTests := true, laidLooks := .later }
def EventDecodesUptoCardSaid : Prop := Claim7.holds Tryd.pinned (.plain (OpenSpec.upto eventDecodesSpec)) eventDecodesUptoCard

/-- THE SECOND FORM's CARD OF 'palaverlaw06.EventBack'. -/
def eventBackUptoCard : Claim7 := { stood := { row := eventBackUptoRow, standIns := [], harness := (true, "64f01a6f607dcc4664f0101348926a95f14446f1e98d45e19886211b322256f7"), looks := false }, kinds := [], alts := [], laidByText := true, laidKinds := [.data], laidTests := true, laidLooks := .later }
def EventBackUptoCardSaid : Prop := Claim7.holds Tryd.pinned (.plain (OpenSpec.upto eventBackSpec)) eventBackUptoCard

/-- THE SECOND FORM's CARD OF 'palaverlaw06.EventAgain'. -/
def eventAgainUptoCard : Claim7 := { stood := { row := eventAgainUptoRow, standIns := [], harness := (true, "64f01a6f607dcc4664f0101348926a95f14446f1e98d45e19886211b322256f7"), looks := false }, kinds := [], alts := [], laidByText := true, laidKinds := [.data], laidTests := true, laidLooks := .later }
def EventAgainUptoCardSaid : Prop := Claim7.holds Tryd.pinned (.plain (OpenSpec.upto eventAgainSpec)) eventAgainUptoCard

/-- THE SECOND FORM's CARD OF 'palaverlaw06.EventChecks'. -/
def eventChecksUptoCard : Claim7 := { stood := { row := eventChecksUptoRow, standIns := [], harness := (true, "64f01a6f607dcc4664f0101348926a95f14446f1e98d45e19886211b322256f7"), looks := false }, kinds := [], alts := [], laidByText := true, laidKinds := [.data], laidTests := true, laidLooks := .later }
def EventChecksUptoCardSaid : Prop := Claim7.holds Tryd.pinned (.plain (OpenSpec.upto eventChecksSpec)) eventChecksUptoCard

/-- THE SECOND FORM's CARD OF 'palaverlaw06.EventNone'. -/
def eventNoneUptoCard : Claim7 := { stood := { row := eventNoneUptoRow, standIns := [], harness := (true, "64f01a6f607dcc4664f0101348926a95f14446f1e98d45e19886211b322256f7"), looks := false }, kinds := [], alts := [], laidByText := true, laidKinds := [.data], laidTests := true, laidLooks := .later }
def EventNoneUptoCardSaid : Prop := Claim7.holds Tryd.pinned (.plain (OpenSpec.upto eventNoneSpec)) eventNoneUptoCard
end Rows
end Go.Proofs.YtmedpnclkbkiiaaDoor
