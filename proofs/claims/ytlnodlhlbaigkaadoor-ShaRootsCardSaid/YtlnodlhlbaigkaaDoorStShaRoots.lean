-- WRITTEN BY a program of this work (wip/ownprint.py), for this seat
import Derived.Test.YtlnodlhlbaigkaaDoorPPx11
namespace Go.Proofs.YtlnodlhlbaigkaaDoor.PP
open Go.RowKit Go.Proofs.YtlnodlhlbaigkaaDoor.PP Go.Proofs.YtlnodlhlbaigkaaDoorW.PrintWords Go.Proofs.YtlnodlhlbaigkaaDoorW.PrintLast Go.Proofs.YtlnodlhlbaigkaaDoorW.PrintMore
/-- What is left of palaver/palaverlaw02.ShaRoots: no machine and no Go in it. -/
def palaverlaw02_ShaRoots.Stmt : Prop := ∀ (a0 : Int), (Lit.int .u8 a0).wf = true → ∃ k, palaverlaw02_ShaRoots.f k a0 = some true
end Go.Proofs.YtlnodlhlbaigkaaDoor.PP
