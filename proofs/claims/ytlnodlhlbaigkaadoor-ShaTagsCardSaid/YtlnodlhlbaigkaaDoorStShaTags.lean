-- WRITTEN BY a program of this work (wip/ownprint.py), for this seat
import Derived.Test.YtlnodlhlbaigkaaDoorPPx13
namespace Go.Proofs.YtlnodlhlbaigkaaDoor.PP
open Go.RowKit Go.Proofs.YtlnodlhlbaigkaaDoor.PP Go.Proofs.YtlnodlhlbaigkaaDoorW.PrintWords Go.Proofs.YtlnodlhlbaigkaaDoorW.PrintLast Go.Proofs.YtlnodlhlbaigkaaDoorW.PrintMore
/-- What is left of palaver/palaverlaw02.ShaTags: no machine and no Go in it. -/
def palaverlaw02_ShaTags.Stmt : Prop := ∀ (a0 : Int) (l1 : List ByteArray), (Lit.int .i64 a0).wf = true → l1.length * 16 ≤ 140737488351232 → ∃ k, palaverlaw02_ShaTags.f k a0 l1 = some true
end Go.Proofs.YtlnodlhlbaigkaaDoor.PP
