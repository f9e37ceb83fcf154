-- WRITTEN BY a program of this work (wip/ownprint.py), for this seat
import Derived.Test.YtmnppogihmhdgaaDoorPPx19
namespace Go.Proofs.YtmnppogihmhdgaaDoor.PP
open Go.RowKit Go.Proofs.YtmnppogihmhdgaaDoor.PP Go.Proofs.YtmnppogihmhdgaaDoorW.PrintWords Go.Proofs.YtmnppogihmhdgaaDoorW.PrintLast Go.Proofs.YtmnppogihmhdgaaDoorW.PrintMore
/-- What is left of palaver/palaverlaw04.MerkleBinds: no machine and no Go in it. -/
def palaverlaw04_MerkleBinds.Stmt : Prop := ∀ (a0 : ByteArray) (a1 : ByteArray) (a2 : Int) (l3 : List ByteArray), a0.size ≤ 140737488351232 → a1.size ≤ 140737488351232 → (Lit.int .i64 a2).wf = true → l3.length * 16 ≤ 140737488351232 → ∃ k, palaverlaw04_MerkleBinds.f k a0 a1 a2 l3 = some true
end Go.Proofs.YtmnppogihmhdgaaDoor.PP
