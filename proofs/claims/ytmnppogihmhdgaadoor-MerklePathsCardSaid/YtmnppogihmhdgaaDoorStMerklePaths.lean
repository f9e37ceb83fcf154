-- WRITTEN BY a program of this work (wip/ownprint.py), for this seat
import Derived.Test.YtmnppogihmhdgaaDoorPPx13
namespace Go.Proofs.YtmnppogihmhdgaaDoor.PP
open Go.RowKit Go.Proofs.YtmnppogihmhdgaaDoor.PP Go.Proofs.YtmnppogihmhdgaaDoorW.PrintWords Go.Proofs.YtmnppogihmhdgaaDoorW.PrintLast Go.Proofs.YtmnppogihmhdgaaDoorW.PrintMore
/-- What is left of palaver/palaverlaw04.MerklePaths: no machine and no Go in it. -/
def palaverlaw04_MerklePaths.Stmt : Prop := ∀ (l0 : List ByteArray) (a1 : Int), l0.length * 16 ≤ 140737488351232 → (Lit.int .i64 a1).wf = true → ∃ k, palaverlaw04_MerklePaths.f k l0 a1 = some true
end Go.Proofs.YtmnppogihmhdgaaDoor.PP
