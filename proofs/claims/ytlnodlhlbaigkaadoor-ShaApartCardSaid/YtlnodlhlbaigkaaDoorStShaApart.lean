-- WRITTEN BY a program of this work (wip/ownprint.py), for this seat
import Derived.Test.YtlnodlhlbaigkaaDoorPPx6
namespace Go.Proofs.YtlnodlhlbaigkaaDoor.PP
open Go.RowKit Go.Proofs.YtlnodlhlbaigkaaDoor.PP Go.Proofs.YtlnodlhlbaigkaaDoorW.PrintWords Go.Proofs.YtlnodlhlbaigkaaDoorW.PrintLast Go.Proofs.YtlnodlhlbaigkaaDoorW.PrintMore
/-- What is left of palaver/palaverlaw02.ShaApart: no machine and no Go in it. -/
def palaverlaw02_ShaApart.Stmt : Prop := ∀ (a0 : Int) (a1 : Int) (l2 : List ByteArray) (l3 : List ByteArray), (Lit.int .u8 a0).wf = true → (Lit.int .u8 a1).wf = true → l2.length * 16 ≤ 140737488351232 → l3.length * 16 ≤ 140737488351232 → ∃ k, palaverlaw02_ShaApart.f k a0 a1 l2 l3 = some true
end Go.Proofs.YtlnodlhlbaigkaaDoor.PP
