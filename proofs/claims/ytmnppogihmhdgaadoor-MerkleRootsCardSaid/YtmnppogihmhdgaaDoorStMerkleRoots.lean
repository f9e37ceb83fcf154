-- WRITTEN BY a program of this work (wip/ownprint.py), for this seat
import Derived.Test.YtmnppogihmhdgaaDoorPPx10
namespace Go.Proofs.YtmnppogihmhdgaaDoor.PP
open Go.RowKit Go.Proofs.YtmnppogihmhdgaaDoor.PP Go.Proofs.YtmnppogihmhdgaaDoorW.PrintWords Go.Proofs.YtmnppogihmhdgaaDoorW.PrintLast Go.Proofs.YtmnppogihmhdgaaDoorW.PrintMore
/-- What is left of palaver/palaverlaw04.MerkleRoots: no machine and no Go in it. -/
def palaverlaw04_MerkleRoots.Stmt : Prop := ∀ (l0 : List ByteArray), l0.length * 16 ≤ 140737488351232 → ∃ k, palaverlaw04_MerkleRoots.f k l0 = some true
end Go.Proofs.YtmnppogihmhdgaaDoor.PP
