/-
  DERIVED. GIVEN WITH THE SEED: THE CARDS: each row of YtlnodlhlbaigkaaDoorRows.lean that lists a variable, with what it lists TIED to the program's text (the seventh form; the later family's looks); each row that meets fmt, with fmt's text TOLD by the authors' own Lean function (tested against real Go, not proved from fmt's source: count such statements apart). THE CARD IS WHAT COUNTS. Prove the row's statement (the work); the ties are given (YtlnodlhlbaigkaaDoorTie.lean); close each card by the builder's one call (the guide's Derived/Test/ToyasCard.lean, 'card_holds'). Laid BY PROGRAM, IN A SANDBOX (cutbox-door.mjs). By AI agents, Wed Nov 11 2026. No macro, syntax, notation, axiom, sorry.
-/
import Derived.Test.YtlnodlhlbaigkaaDoorRows
import GoSem.ClaimSeven
namespace Go.Proofs.YtlnodlhlbaigkaaDoor
namespace Rows

/-- THE TIED CARD OF 'palaverlaw02.ShaSums'. -/
def shaSumsCard : Claim7 := { stood := { row := shaSumsRow, standIns := [], harness := (true, "f61febe4a92bc304091607bc86ef29986b13324e3e7ed6d1e158a2c5975f4639"), looks := false }, kinds := [], alts := [], laidByText := true, laidKinds := [.data], laidTests := true, laidLooks := .later }
def ShaSumsCardSaid : Prop := Claim7.holds Tryd.pinned (.plain (OpenSpec.ofChange shaSumsSpec)) shaSumsCard

/-- THE TIED CARD OF 'palaverlaw02.ShaApart'. -/
def shaApartCard : Claim7 := { stood := { row := shaApartRow, standIns := [], harness := (true, "f61febe4a92bc304091607bc86ef29986b13324e3e7ed6d1e158a2c5975f4639"), looks := false }, kinds := [], alts := [], laidByText := true, laidKinds := [.data], laidTests := true, laidLooks := .later }
def ShaApartCardSaid : Prop := Claim7.holds Tryd.pinned (.plain (OpenSpec.ofChange shaApartSpec)) shaApartCard

/-- THE TIED CARD OF 'palaverlaw02.ShaRoots'. -/
def shaRootsCard : Claim7 := { stood := { row := shaRootsRow, standIns := [], harness := (true, "f61febe4a92bc304091607bc86ef29986b13324e3e7ed6d1e158a2c5975f4639"), looks := false }, kinds := [], alts := [], laidByText := true, laidKinds := [.data], laidTests := true, laidLooks := .later }
def ShaRootsCardSaid : Prop := Claim7.holds Tryd.pinned (.plain (OpenSpec.ofChange shaRootsSpec)) shaRootsCard

/-- THE TIED CARD OF 'palaverlaw02.ShaTags'. -/
def shaTagsCard : Claim7 := { stood := { row := shaTagsRow, standIns := [], harness := (true, "f61febe4a92bc304091607bc86ef29986b13324e3e7ed6d1e158a2c5975f4639"), looks := false }, kinds := [], alts := [], laidByText := true, laidKinds := [.data], laidTests := true, laidLooks := .later }
def ShaTagsCardSaid : Prop := Claim7.holds Tryd.pinned (.plain (OpenSpec.ofChange shaTagsSpec)) shaTagsCard

/-- THE TIED CARD OF 'palaverlaw02.ShaLong'. -/
def shaLongCard : Claim7 := { stood := { row := shaLongRow, standIns := [], harness := (true, "f61febe4a92bc304091607bc86ef29986b13324e3e7ed6d1e158a2c5975f4639"), looks := false }, kinds := [], alts := [], laidByText := true, laidKinds := [.data], laidTests := true, laidLooks := .later }
def ShaLongCardSaid : Prop := Claim7.holds Tryd.pinned (.plain (OpenSpec.ofChange shaLongSpec)) shaLongCard

/-- THE TIED CARD OF 'palaverlaw02.ShaClashes'. -/
def shaClashesCard : Claim7 := { stood := { row := shaClashesRow, standIns := [], harness := (true, "f61febe4a92bc304091607bc86ef29986b13324e3e7ed6d1e158a2c5975f4639"), looks := false }, kinds := [], alts := [], laidByText := true, laidKinds := [.data], laidTests := true, laidLooks := .later }
def ShaClashesCardSaid : Prop := Claim7.holds Tryd.pinned (.plain (OpenSpec.ofChange shaClashesSpec)) shaClashesCard

/-- THE SECOND FORM's CARD OF 'palaverlaw02.ShaSums'. -/
def shaSumsUptoCard : Claim7 := { stood := { row := shaSumsUptoRow, standIns := [], harness := (true, "f61febe4a92bc304091607bc86ef29986b13324e3e7ed6d1e158a2c5975f4639"), looks := false }, kinds := [], alts := [], laidByText := true, laidKinds := [.data], laidTests := true, laidLooks := .later }
def ShaSumsUptoCardSaid : Prop := Claim7.holds Tryd.pinned (.plain (OpenSpec.upto shaSumsSpec)) shaSumsUptoCard

/-- THE SECOND FORM's CARD OF 'palaverlaw02.ShaApart'. -/
def shaApartUptoCard : Claim7 := { stood := { row := shaApartUptoRow, standIns := [], harness := (true, "f61febe4a92bc304091607bc86ef29986b13324e3e7ed6d1e158a2c5975f4639"), looks := false }, kinds := [], alts := [], laidByText := true, laidKinds := [.data], laidTests := true, laidLooks := .later }
def ShaApartUptoCardSaid : Prop := Claim7.holds Tryd.pinned (.plain (OpenSpec.upto shaApartSpec)) shaApartUptoCard

/-- THE SECOND FORM's CARD OF 'palaverlaw02.ShaRoots'. -/
def shaRootsUptoCard : Claim7 := { stood := { row := shaRootsUptoRow, standIns := [], harness := (true, "f61febe4a92bc304091607bc86ef29986b13324e3e7ed6d1e158a2c5975f4639"), looks := false }, kinds := [], alts := [], laidByText := true, laidKinds := [.data], laidTests := true, laidLooks := .later }
def ShaRootsUptoCardSaid : Prop := Claim7.holds Tryd.pinned (.plain (OpenSpec.upto shaRootsSpec)) shaRootsUptoCard

/-- THE SECOND FORM's CARD OF 'palaverlaw02.ShaTags'. -/
def shaTagsUptoCard : Claim7 := { stood := { row := shaTagsUptoRow, standIns := [], harness := (true, "f61febe4a92bc304091607bc86ef29986b13324e3e7ed6d1e158a2c5975f4639"), looks := false }, kinds := [], alts := [], laidByText := true, laidKinds := [.data], laidTests := true, laidLooks := .later }
def ShaTagsUptoCardSaid : Prop := Claim7.holds Tryd.pinned (.plain (OpenSpec.upto shaTagsSpec)) shaTagsUptoCard

/-- THE SECOND FORM's CARD OF 'palaverlaw02.ShaLong'. -/
def shaLongUptoCard : Claim7 := { stood := { row := shaLongUptoRow, standIns := [], harness := (true, "f61febe4a92bc304091607bc86ef29986b13324e3e7ed6d1e158a2c5975f4639"), looks := false }, kinds := [], alts := [], laidByText := true, laidKinds := [.data], laidTests := true, laidLooks := .later }
def ShaLongUptoCardSaid : Prop := Claim7.holds Tryd.pinned (.plain (OpenSpec.upto shaLongSpec)) shaLongUptoCard

/-- THE SECOND FORM's CARD OF 'palaverlaw02.ShaClashes'. -/
def shaClashesUptoCard : Claim7 := { stood := { row := shaClashesUptoRow, standIns := [], harness := (true, "f61febe4a92bc304091607bc86ef29986b13324e3e7ed6d1e158a2c5975f4639"), looks := false }, kinds := [], alts := [], laidByText := true, laidKinds := [.data], laidTests := true, laidLooks := .later }
def ShaClashesUptoCardSaid : Prop := Claim7.holds Tryd.pinned (.plain (OpenSpec.upto shaClashesSpec)) shaClashesUptoCard
end Rows
end Go.Proofs.YtlnodlhlbaigkaaDoor
