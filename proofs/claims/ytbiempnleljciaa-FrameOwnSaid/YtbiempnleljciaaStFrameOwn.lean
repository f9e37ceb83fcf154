-- WRITTEN BY a program of this work (wip/ownprint.py), for this seat
import Derived.Test.YtbiempnleljciaaPPx16
namespace Go.Proofs.Ytbiempnleljciaa.PP
open Go.RowKit Go.Proofs.Ytbiempnleljciaa.PP Go.Proofs.YtbiempnleljciaaW.PrintWords Go.Proofs.YtbiempnleljciaaW.PrintLast Go.Proofs.YtbiempnleljciaaW.PrintMore
/-- What is left of palaver/palaverlaw07.FrameOwn: no machine and no Go in it. -/
def palaverlaw07_FrameOwn.Stmt : Prop := ∀ (a0 : ByteArray), a0.size ≤ 140737488351232 → ∃ k, palaverlaw07_FrameOwn.f k a0 = some true
end Go.Proofs.Ytbiempnleljciaa.PP
