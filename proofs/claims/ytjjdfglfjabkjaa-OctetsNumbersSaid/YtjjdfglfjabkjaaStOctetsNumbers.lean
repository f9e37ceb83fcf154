-- WRITTEN BY a program of this work (wip/ownprint.py), for this seat
import Derived.Test.YtjjdfglfjabkjaaPPx2
namespace Go.Proofs.Ytjjdfglfjabkjaa.PP
open Go.RowKit Go.Proofs.Ytjjdfglfjabkjaa.PP Go.Proofs.YtjjdfglfjabkjaaW.PrintWords Go.Proofs.YtjjdfglfjabkjaaW.PrintLast Go.Proofs.YtjjdfglfjabkjaaW.PrintMore
/-- What is left of palaver/palaverlaw01.OctetsNumbers: no machine and no Go in it. -/
def palaverlaw01_OctetsNumbers.Stmt : Prop := ∀ (a0 : Int), (Lit.int .i64 a0).wf = true → ∃ k, palaverlaw01_OctetsNumbers.f k a0 = some true
end Go.Proofs.Ytjjdfglfjabkjaa.PP
