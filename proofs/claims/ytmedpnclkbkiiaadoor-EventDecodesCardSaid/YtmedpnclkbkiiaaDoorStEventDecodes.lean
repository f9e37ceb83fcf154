-- WRITTEN BY a program of this work (wip/ownprint.py), for this seat
import Derived.Test.YtmedpnclkbkiiaaDoorPPx14
namespace Go.Proofs.YtmedpnclkbkiiaaDoor.PP
open Go.RowKit Go.Proofs.YtmedpnclkbkiiaaDoor.PP Go.Proofs.YtmedpnclkbkiiaaDoorW.PrintWords Go.Proofs.YtmedpnclkbkiiaaDoorW.PrintLast Go.Proofs.YtmedpnclkbkiiaaDoorW.PrintMore
/-- What is left of palaver/palaverlaw06.EventDecodes: no machine and no Go in it. -/
def palaverlaw06_EventDecodes.Stmt : Prop := ∀ (a0 : ByteArray), a0.size ≤ 140737488351232 → ∃ k, palaverlaw06_EventDecodes.f k a0 = some true
end Go.Proofs.YtmedpnclkbkiiaaDoor.PP
