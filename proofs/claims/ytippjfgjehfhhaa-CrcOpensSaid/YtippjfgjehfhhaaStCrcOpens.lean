-- WRITTEN BY a program of this work (wip/ownprint.py), for this seat
import Derived.Test.YtippjfgjehfhhaaPPx5
namespace Go.Proofs.Ytippjfgjehfhhaa.PP
open Go.RowKit Go.Proofs.Ytippjfgjehfhhaa.PP Go.Proofs.YtippjfgjehfhhaaW.PrintWords Go.Proofs.YtippjfgjehfhhaaW.PrintLast Go.Proofs.YtippjfgjehfhhaaW.PrintMore
/-- What is left of palaver/palaverlaw08.CrcOpens: no machine and no Go in it. -/
def palaverlaw08_CrcOpens.Stmt : Prop := ∀ (a0 : ByteArray), a0.size ≤ 140737488351232 → ∃ k, palaverlaw08_CrcOpens.f k a0 = some true
end Go.Proofs.Ytippjfgjehfhhaa.PP
