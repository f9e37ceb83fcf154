-- WRITTEN BY a program of this work (wip/ownprint.py), for this seat
import Derived.Test.YtjjdfglfjabkjaaPPx2
namespace Go.Proofs.Ytjjdfglfjabkjaa.PP
open Go.RowKit Go.Proofs.Ytjjdfglfjabkjaa.PP Go.Proofs.YtjjdfglfjabkjaaW.PrintWords Go.Proofs.YtjjdfglfjabkjaaW.PrintLast Go.Proofs.YtjjdfglfjabkjaaW.PrintMore
/-- What is left of palaver/palaverlaw01.OctetsTexts: no machine and no Go in it. -/
def palaverlaw01_OctetsTexts.Stmt : Prop := ∀ (a0 : ByteArray), a0.size ≤ 140737488351232 → ∃ k, palaverlaw01_OctetsTexts.f k a0 = some true
end Go.Proofs.Ytjjdfglfjabkjaa.PP
