-- WRITTEN BY a program of this work (wip/ownprint.py), for this seat
import Derived.Test.YtmnppogihmhdgaaDoorPPx17
namespace Go.Proofs.YtmnppogihmhdgaaDoor.PP
open Go.RowKit Go.Proofs.YtmnppogihmhdgaaDoor.PP Go.Proofs.YtmnppogihmhdgaaDoorW.PrintWords Go.Proofs.YtmnppogihmhdgaaDoorW.PrintLast Go.Proofs.YtmnppogihmhdgaaDoorW.PrintMore
/-- What is left of palaver/palaverlaw04.MerkleFolds: no machine and no Go in it. -/
def palaverlaw04_MerkleFolds.Stmt : Prop := ∀ (a0 : ByteArray) (a1 : Int) (l2 : List ByteArray), a0.size ≤ 140737488351232 → (Lit.int .i64 a1).wf = true → l2.length * 16 ≤ 140737488351232 → ∃ k, palaverlaw04_MerkleFolds.f k a0 a1 l2 = some true
end Go.Proofs.YtmnppogihmhdgaaDoor.PP
