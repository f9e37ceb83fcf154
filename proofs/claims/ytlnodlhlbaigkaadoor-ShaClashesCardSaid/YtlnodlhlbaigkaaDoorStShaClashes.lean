-- WRITTEN BY a program of this work (wip/ownprint.py), for this seat
import Derived.Test.YtlnodlhlbaigkaaDoorPPx16
namespace Go.Proofs.YtlnodlhlbaigkaaDoor.PP
open Go.RowKit Go.Proofs.YtlnodlhlbaigkaaDoor.PP Go.Proofs.YtlnodlhlbaigkaaDoorW.PrintWords Go.Proofs.YtlnodlhlbaigkaaDoorW.PrintLast Go.Proofs.YtlnodlhlbaigkaaDoorW.PrintMore
/-- What is left of palaver/palaverlaw02.ShaClashes: no machine and no Go in it. -/
def palaverlaw02_ShaClashes.Stmt : Prop := ∀ (l0 : List ByteArray), l0.length * 16 ≤ 140737488351232 → ∃ k, palaverlaw02_ShaClashes.f k l0 = some true
end Go.Proofs.YtlnodlhlbaigkaaDoor.PP
