-- WRITTEN BY a program of this work (wip/ownprint.py), for this seat
import Derived.Test.YtbiempnleljciaaPPx15
namespace Go.Proofs.Ytbiempnleljciaa.PP
open Go.RowKit Go.Proofs.Ytbiempnleljciaa.PP Go.Proofs.YtbiempnleljciaaW.PrintWords Go.Proofs.YtbiempnleljciaaW.PrintLast Go.Proofs.YtbiempnleljciaaW.PrintMore
/-- What is left of palaver/palaverlaw07.FrameCut: no machine and no Go in it. -/
def palaverlaw07_FrameCut.Stmt : Prop := ∀ (a0_0 : Int) (a0_1 : Int) (l0_2 : List ByteArray) (a0_3 : ByteArray) (l0_4 : List ByteArray) (a1 : Int) (a2 : ByteArray), (Lit.int .i64 a0_0).wf = true → (Lit.int .i64 a0_1).wf = true → l0_2.length ≤ 9223372036854775807 → l0_4.length ≤ 9223372036854775807 → (Lit.int .i64 a1).wf = true → a2.size ≤ 140737488351232 → ∃ k, palaverlaw07_FrameCut.f k a0_0 a0_1 l0_2 a0_3 l0_4 a1 a2 = some true
end Go.Proofs.Ytbiempnleljciaa.PP
