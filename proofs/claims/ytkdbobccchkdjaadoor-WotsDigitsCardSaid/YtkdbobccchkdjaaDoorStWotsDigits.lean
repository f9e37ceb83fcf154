-- WRITTEN BY a program of this work (wip/ownprint.py), for this seat
import Derived.Test.YtkdbobccchkdjaaDoorPPx9
namespace Go.Proofs.YtkdbobccchkdjaaDoor.PP
open Go.RowKit Go.Proofs.YtkdbobccchkdjaaDoor.PP Go.Proofs.YtkdbobccchkdjaaDoorW.PrintWords Go.Proofs.YtkdbobccchkdjaaDoorW.PrintLast Go.Proofs.YtkdbobccchkdjaaDoorW.PrintMore
/-- What is left of palaver/palaverlaw03.WotsDigits: no machine and no Go in it. -/
def palaverlaw03_WotsDigits.Stmt : Prop := ∀ (a0 : ByteArray), a0.size ≤ 140737488351232 → ∃ k, palaverlaw03_WotsDigits.f k a0 = some true
end Go.Proofs.YtkdbobccchkdjaaDoor.PP
