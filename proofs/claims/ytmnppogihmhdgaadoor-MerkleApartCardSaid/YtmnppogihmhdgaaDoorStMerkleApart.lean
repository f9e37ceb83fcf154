-- WRITTEN BY a program of this work (wip/ownprint.py), for this seat
import Derived.Test.YtmnppogihmhdgaaDoorPPx15
namespace Go.Proofs.YtmnppogihmhdgaaDoor.PP
open Go.RowKit Go.Proofs.YtmnppogihmhdgaaDoor.PP Go.Proofs.YtmnppogihmhdgaaDoorW.PrintWords Go.Proofs.YtmnppogihmhdgaaDoorW.PrintLast Go.Proofs.YtmnppogihmhdgaaDoorW.PrintMore
/-- What is left of palaver/palaverlaw04.MerkleApart: no machine and no Go in it. -/
def palaverlaw04_MerkleApart.Stmt : Prop := ∀ (l0 : List ByteArray) (a1 : Int) (a2 : ByteArray), l0.length * 16 ≤ 140737488351232 → (Lit.int .i64 a1).wf = true → a2.size ≤ 140737488351232 → ∃ k, palaverlaw04_MerkleApart.f k l0 a1 a2 = some true
end Go.Proofs.YtmnppogihmhdgaaDoor.PP
