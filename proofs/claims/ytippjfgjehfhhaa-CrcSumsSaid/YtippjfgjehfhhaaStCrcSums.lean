-- WRITTEN BY a program of this work (wip/ownprint.py), for this seat
import Derived.Test.YtippjfgjehfhhaaPPx4
namespace Go.Proofs.Ytippjfgjehfhhaa.PP
open Go.RowKit Go.Proofs.Ytippjfgjehfhhaa.PP Go.Proofs.YtippjfgjehfhhaaW.PrintWords Go.Proofs.YtippjfgjehfhhaaW.PrintLast Go.Proofs.YtippjfgjehfhhaaW.PrintMore
/-- What is left of palaver/palaverlaw08.CrcSums: no machine and no Go in it. -/
def palaverlaw08_CrcSums.Stmt : Prop := ∀ (a0 : ByteArray) (a1 : Int), a0.size ≤ 140737488351232 → (Lit.int .u32 a1).wf = true → ∃ k, palaverlaw08_CrcSums.f k a0 a1 = some true
end Go.Proofs.Ytippjfgjehfhhaa.PP
