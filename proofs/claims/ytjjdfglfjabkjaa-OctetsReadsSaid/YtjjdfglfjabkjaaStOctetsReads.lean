-- WRITTEN BY a program of this work (wip/ownprint.py), for this seat
import Derived.Test.YtjjdfglfjabkjaaPPx4
namespace Go.Proofs.Ytjjdfglfjabkjaa.PP
open Go.RowKit Go.Proofs.Ytjjdfglfjabkjaa.PP Go.Proofs.YtjjdfglfjabkjaaW.PrintWords Go.Proofs.YtjjdfglfjabkjaaW.PrintLast Go.Proofs.YtjjdfglfjabkjaaW.PrintMore
/-- What is left of palaver/palaverlaw01.OctetsReads: no machine and no Go in it. -/
def palaverlaw01_OctetsReads.Stmt : Prop := ∀ (a0 : ByteArray) (l1 : List (S37)), a0.size ≤ 140737488351232 → l1.length * 16 ≤ 140737488351232 → ∃ k, palaverlaw01_OctetsReads.f k a0 l1 = some true
end Go.Proofs.Ytjjdfglfjabkjaa.PP
