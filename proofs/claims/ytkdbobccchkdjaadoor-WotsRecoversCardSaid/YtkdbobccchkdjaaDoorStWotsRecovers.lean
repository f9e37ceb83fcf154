-- WRITTEN BY a program of this work (wip/ownprint.py), for this seat
import Derived.Test.YtkdbobccchkdjaaDoorPPx12
namespace Go.Proofs.YtkdbobccchkdjaaDoor.PP
open Go.RowKit Go.Proofs.YtkdbobccchkdjaaDoor.PP Go.Proofs.YtkdbobccchkdjaaDoorW.PrintWords Go.Proofs.YtkdbobccchkdjaaDoorW.PrintLast Go.Proofs.YtkdbobccchkdjaaDoorW.PrintMore
/-- What is left of palaver/palaverlaw03.WotsRecovers: no machine and no Go in it. -/
def palaverlaw03_WotsRecovers.Stmt : Prop := ∀ (a0 : ByteArray) (l1 : List ByteArray), a0.size ≤ 140737488351232 → l1.length * 16 ≤ 140737488351232 → ∃ k, palaverlaw03_WotsRecovers.f k a0 l1 = some true
end Go.Proofs.YtkdbobccchkdjaaDoor.PP
