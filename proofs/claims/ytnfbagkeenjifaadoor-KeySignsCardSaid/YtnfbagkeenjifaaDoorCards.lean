/-
  DERIVED. GIVEN WITH THE SEED: THE CARDS: each row of YtnfbagkeenjifaaDoorRows.lean that lists a variable, with what it lists TIED to the program's text (the seventh form; the later family's looks); each row that meets fmt, with fmt's text TOLD by the authors' own Lean function (tested against real Go, not proved from fmt's source: count such statements apart). THE CARD IS WHAT COUNTS. Prove the row's statement (the work); the ties are given (YtnfbagkeenjifaaDoorTie.lean); close each card by the builder's one call (the guide's Derived/Test/ToyasCard.lean, 'card_holds'). Laid BY PROGRAM, IN A SANDBOX (cutbox-door.mjs). By AI agents, Wed Nov 11 2026. No macro, syntax, notation, axiom, sorry.
-/
import Derived.Test.YtnfbagkeenjifaaDoorRows
import GoSem.ClaimSeven
namespace Go.Proofs.YtnfbagkeenjifaaDoor
namespace Rows

/-- THE TIED CARD OF 'palaverlaw05.KeyMakes'. -/
def keyMakesCard : Claim7 := { stood := { row := keyMakesRow, standIns := [], harness := (true, "c221c948e04b2584681352d82f8ceff372fa8f7e630c3e9108e81e56c42aafca"), looks := false }, kinds := [], alts := [], laidByText := true, laidKinds := [.data], laidTests := true, laidLooks := .later }
def KeyMakesCardSaid : Prop := Claim7.holds Tryd.pinned (.plain (OpenSpec.ofChange keyMakesSpec)) keyMakesCard

/-- THE TIED CARD OF 'palaverlaw05.KeyNone'. -/
def keyNoneCard : Claim7 := { stood := { row := keyNoneRow, standIns := [], harness := (true, "c221c948e04b2584681352d82f8ceff372fa8f7e630c3e9108e81e56c42aafca"), looks := false }, kinds := [], alts := [], laidByText := true, laidKinds := [.data], laidTests := true, laidLooks := .later }
def KeyNoneCardSaid : Prop := Claim7.holds Tryd.pinned (.plain (OpenSpec.ofChange keyNoneSpec)) keyNoneCard

/-- THE TIED CARD OF 'palaverlaw05.KeySigns'. -/
def keySignsCard : Claim7 := { stood := { row := keySignsRow, standIns := [], harness := (true, "c221c948e04b2584681352d82f8ceff372fa8f7e630c3e9108e81e56c42aafca"), looks := false }, kinds := [], alts := [], laidByText := true, laidKinds := [.data], laidTests := true, laidLooks := .later }
def KeySignsCardSaid : Prop := Claim7.holds Tryd.pinned (.plain (OpenSpec.ofChange keySignsSpec)) keySignsCard

/-- THE SECOND FORM's CARD OF 'palaverlaw05.KeyMakes'. -/
def keyMakesUptoCard : Claim7 := { stood := { row := keyMakesUptoRow, standIns := [], harness := (true, "c221c948e04b2584681352d82f8ceff372fa8f7e630c3e9108e81e56c42aafca"), looks := false }, kinds := [], alts := [], laidByText := true, laidKinds := [.data], laidTests := true, laidLooks := .later }
def KeyMakesUptoCardSaid : Prop := Claim7.holds Tryd.pinned (.plain (OpenSpec.upto keyMakesSpec)) keyMakesUptoCard

/-- THE SECOND FORM's CARD OF 'palaverlaw05.KeyNone'. -/
def keyNoneUptoCard : Claim7 := { stood := { row := keyNoneUptoRow, standIns := [], harness := (true, "c221c948e04b2584681352d82f8ceff372fa8f7e630c3e9108e81e56c42aafca"), looks := false }, kinds := [], alts := [], laidByText := true, laidKinds := [.data], laidTests := true, laidLooks := .later }
def KeyNoneUptoCardSaid : Prop := Claim7.holds Tryd.pinned (.plain (OpenSpec.upto keyNoneSpec)) keyNoneUptoCard

/-- THE SECOND FORM's CARD OF 'palaverlaw05.KeySigns'. -/
def keySignsUptoCard : Claim7 := { stood := { row := keySignsUptoRow, standIns := [], harness := (true, "c221c948e04b2584681352d82f8ceff372fa8f7e630c3e9108e81e56c42aafca"), looks := false }, kinds := [], alts := [], laidByText := true, laidKinds := [.data], laidTests := true, laidLooks := .later }
def KeySignsUptoCardSaid : Prop := Claim7.holds Tryd.pinned (.plain (OpenSpec.upto keySignsSpec)) keySignsUptoCard
end Rows
end Go.Proofs.YtnfbagkeenjifaaDoor
