-- WRITTEN BY a program of this work (wip/ownprint.py), for this seat
import Derived.Test.YtkdbobccchkdjaaDoorPPx16
namespace Go.Proofs.YtkdbobccchkdjaaDoor.PP
open Go.RowKit Go.Proofs.YtkdbobccchkdjaaDoor.PP Go.Proofs.YtkdbobccchkdjaaDoorW.PrintWords Go.Proofs.YtkdbobccchkdjaaDoorW.PrintLast Go.Proofs.YtkdbobccchkdjaaDoorW.PrintMore
/-- What is left of palaver/palaverlaw03.WotsBack: no machine and no Go in it. -/
def palaverlaw03_WotsBack.Stmt : Prop := ∀ (a0 : ByteArray) (a1 : Int) (a2 : ByteArray), a0.size ≤ 140737488351232 → (Lit.int .u16 a1).wf = true → a2.size ≤ 140737488351232 → ∃ k, palaverlaw03_WotsBack.f k a0 a1 a2 = some true
end Go.Proofs.YtkdbobccchkdjaaDoor.PP
