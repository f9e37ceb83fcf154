-- WRITTEN BY a program of this work (wip/ownprint.py), for this seat
import Derived.Test.YtmedpnclkbkiiaaDoorPPx5
namespace Go.Proofs.YtmedpnclkbkiiaaDoor.PP
open Go.RowKit Go.Proofs.YtmedpnclkbkiiaaDoor.PP Go.Proofs.YtmedpnclkbkiiaaDoorW.PrintWords Go.Proofs.YtmedpnclkbkiiaaDoorW.PrintLast Go.Proofs.YtmedpnclkbkiiaaDoorW.PrintMore
/-- What is left of palaver/palaverlaw06.EventChecks: no machine and no Go in it. -/
def palaverlaw06_EventChecks.Stmt : Prop := ∀ (a0_0 : Int) (a0_1 : ByteArray) (l0_2 : List ByteArray) (a0_3 : ByteArray) (a0_4 : ByteArray), (Lit.int .i64 a0_0).wf = true → l0_2.length ≤ 9223372036854775807 → ∃ k, palaverlaw06_EventChecks.f k a0_0 a0_1 l0_2 a0_3 a0_4 = some true
end Go.Proofs.YtmedpnclkbkiiaaDoor.PP
