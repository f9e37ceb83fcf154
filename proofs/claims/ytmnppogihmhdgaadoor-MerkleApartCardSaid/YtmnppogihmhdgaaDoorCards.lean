/-
  DERIVED. GIVEN WITH THE SEED: THE CARDS: each row of YtmnppogihmhdgaaDoorRows.lean that lists a variable, with what it lists TIED to the program's text (the seventh form; the later family's looks); each row that meets fmt, with fmt's text TOLD by the authors' own Lean function (tested against real Go, not proved from fmt's source: count such statements apart). THE CARD IS WHAT COUNTS. Prove the row's statement (the work); the ties are given (YtmnppogihmhdgaaDoorTie.lean); close each card by the builder's one call (the guide's Derived/Test/ToyasCard.lean, 'card_holds'). Laid BY PROGRAM, IN A SANDBOX (cutbox-door.mjs). By AI agents, Wed Nov 11 2026. No macro, syntax, notation, axiom, sorry.
-/
import Derived.Test.YtmnppogihmhdgaaDoorRows
import GoSem.ClaimSeven
namespace Go.Proofs.YtmnppogihmhdgaaDoor
namespace Rows

/-- THE TIED CARD OF 'palaverlaw04.MerkleRoots'. -/
def merkleRootsCard : Claim7 := { stood := { row := merkleRootsRow, standIns := [], harness := (true, "d73b8988aa47fb4091d712d3b353b706fa47fdb31fc43390504e6f64c495fcd0"), looks := false }, kinds := [], alts := [], laidByText := true, laidKinds := [.data], laidTests := true, laidLooks := .later }
def MerkleRootsCardSaid : Prop := Claim7.holds Tryd.pinned (.plain (OpenSpec.ofChange merkleRootsSpec)) merkleRootsCard

/-- THE TIED CARD OF 'palaverlaw04.MerklePaths'. -/
def merklePathsCard : Claim7 := { stood := { row := merklePathsRow, standIns := [], harness := (true, "d73b8988aa47fb4091d712d3b353b706fa47fdb31fc43390504e6f64c495fcd0"), looks := false }, kinds := [], alts := [], laidByText := true, laidKinds := [.data], laidTests := true, laidLooks := .later }
def MerklePathsCardSaid : Prop := Claim7.holds Tryd.pinned (.plain (OpenSpec.ofChange merklePathsSpec)) merklePathsCard

/-- THE TIED CARD OF 'palaverlaw04.MerkleApart'. -/
def merkleApartCard : Claim7 := { stood := { row := merkleApartRow, standIns := [], harness := (true, "d73b8988aa47fb4091d712d3b353b706fa47fdb31fc43390504e6f64c495fcd0"), looks := false }, kinds := [], alts := [], laidByText := true, laidKinds := [.data], laidTests := true, laidLooks := .later }
def MerkleApartCardSaid : Prop := Claim7.holds Tryd.pinned (.plain (OpenSpec.ofChange merkleApartSpec)) merkleApartCard

/-- THE TIED CARD OF 'palaverlaw04.MerkleFolds'. -/
def merkleFoldsCard : Claim7 := { stood := { row := merkleFoldsRow, standIns := [], harness := (true, "d73b8988aa47fb4091d712d3b353b706fa47fdb31fc43390504e6f64c495fcd0"), looks := false }, kinds := [], alts := [], laidByText := true, laidKinds := [.data], laidTests := true, laidLooks := .later }
def MerkleFoldsCardSaid : Prop := Claim7.holds Tryd.pinned (.plain (OpenSpec.ofChange merkleFoldsSpec)) merkleFoldsCard

/-- THE TIED CARD OF 'palaverlaw04.MerkleBack'. -/
def merkleBackCard : Claim7 := { stood := { row := merkleBackRow, standIns := [], harness := (true, "d73b8988aa47fb4091d712d3b353b706fa47fdb31fc43390504e6f64c495fcd0"), looks := false }, kinds := [], alts := [], laidByText := true, laidKinds := [.data], laidTests := true, laidLooks := .later }
def MerkleBackCardSaid : Prop := Claim7.holds Tryd.pinned (.plain (OpenSpec.ofChange merkleBackSpec)) merkleBackCard

/-- THE TIED CARD OF 'palaverlaw04.MerkleBinds'. -/
def merkleBindsCard : Claim7 := { stood := { row := merkleBindsRow, standIns := [], harness := (true, "d73b8988aa47fb4091d712d3b353b706fa47fdb31fc43390504e6f64c495fcd0"), looks := false }, kinds := [], alts := [], laidByText := true, laidKinds := [.data], laidTests := true, laidLooks := .later }
def MerkleBindsCardSaid : Prop := Claim7.holds Tryd.pinned (.plain (OpenSpec.ofChange merkleBindsSpec)) merkleBindsCard

/-- THE SECOND FORM's CARD OF 'palaverlaw04.MerkleRoots'. -/
def merkleRootsUptoCard : Claim7 := { stood := { row := merkleRootsUptoRow, standIns := [], harness := (true, "d73b8988aa47fb4091d712d3b353b706fa47fdb31fc43390504e6f64c495fcd0"), looks := false }, kinds := [], alts := [], laidByText := true, laidKinds := [.data], laidTests := true, laidLooks := .later }
def MerkleRootsUptoCardSaid : Prop := Claim7.holds Tryd.pinned (.plain (OpenSpec.upto merkleRootsSpec)) merkleRootsUptoCard

/-- THE SECOND FORM's CARD OF 'palaverlaw04.MerklePaths'. -/
def merklePathsUptoCard : Claim7 := { stood := { row := merklePathsUptoRow, standIns := [], harness := (true, "d73b8988aa47fb4091d712d3b353b706fa47fdb31fc43390504e6f64c495fcd0"), looks := false }, kinds := [], alts := [], laidByText := true, laidKinds := [.data], laidTests := true, laidLooks := .later }
def MerklePathsUptoCardSaid : Prop := Claim7.holds Tryd.pinned (.plain (OpenSpec.upto merklePathsSpec)) merklePathsUptoCard

/-- THE SECOND FORM's CARD OF 'palaverlaw04.MerkleApart'. -/
def merkleApartUptoCard : Claim7 := { stood := { row := merkleApartUptoRow, standIns := [], harness := (true, "d73b8988aa47fb4091d712d3b353b706fa47fdb31fc43390504e6f64c495fcd0"), looks := false }, kinds := [], alts := [], laidByText := true, laidKinds := [.data], laidTests := true, laidLooks := .later }
def MerkleApartUptoCardSaid : Prop := Claim7.holds Tryd.pinned (.plain (OpenSpec.upto merkleApartSpec)) merkleApartUptoCard

/-- THE SECOND FORM's CARD OF 'palaverlaw04.MerkleFolds'. -/
def merkleFoldsUptoCard : Claim7 := { stood := { row := merkleFoldsUptoRow, standIns := [], harness := (true, "d73b8988aa47fb4091d712d3b353b706fa47fdb31fc43390504e6f64c495fcd0"), looks := false }, kinds := [], alts := [], laidByText := true, laidKinds := [.data], laidTests := true, laidLooks := .later }
def MerkleFoldsUptoCardSaid : Prop := Claim7.holds Tryd.pinned (.plain (OpenSpec.upto merkleFoldsSpec)) merkleFoldsUptoCard

/-- THE SECOND FORM's CARD OF 'palaverlaw04.MerkleBack'. -/
def merkleBackUptoCard : Claim7 := { stood := { row := merkleBackUptoRow, standIns := [], harness := (true, "d73b8988aa47fb4091d712d3b353b706fa47fdb31fc43390504e6f64c495fcd0"), looks := false }, kinds := [], alts := [], laidByText := true, laidKinds := [.data], laidTests := true, laidLooks := .later }
def MerkleBackUptoCardSaid : Prop := Claim7.holds Tryd.pinned (.plain (OpenSpec.upto merkleBackSpec)) merkleBackUptoCard

/-- THE SECOND FORM's CARD OF 'palaverlaw04.MerkleBinds'. -/
def merkleBindsUptoCard : Claim7 := { stood := { row := merkleBindsUptoRow, standIns := [], harness := (true, "d73b8988aa47fb4091d712d3b353b706fa47fdb31fc43390504e6f64c495fcd0"), looks := false }, kinds := [], alts := [], laidByText := true, laidKinds := [.data], laidTests := true, laidLooks := .later }
def MerkleBindsUptoCardSaid : Prop := Claim7.holds Tryd.pinned (.plain (OpenSpec.upto merkleBindsSpec)) merkleBindsUptoCard
end Rows
end Go.Proofs.YtmnppogihmhdgaaDoor
