-- WRITTEN BY a program of this work (wip/ownprint.py), for this seat
import Derived.Test.YtjjdfglfjabkjaaPPx5
namespace Go.Proofs.Ytjjdfglfjabkjaa.PP
open Go.RowKit Go.Proofs.Ytjjdfglfjabkjaa.PP Go.Proofs.YtjjdfglfjabkjaaW.PrintWords Go.Proofs.YtjjdfglfjabkjaaW.PrintLast Go.Proofs.YtjjdfglfjabkjaaW.PrintMore
/-- What is left of palaver/palaverlaw01.OctetsBack: no machine and no Go in it. -/
def palaverlaw01_OctetsBack.Stmt : Prop := ∀ (a0 : Int) (a1 : Int) (a2 : Int) (a3 : ByteArray) (a4 : ByteArray), (Lit.int .u8 a0).wf = true → (Lit.int .u16 a1).wf = true → (Lit.int .u32 a2).wf = true → a3.size ≤ 140737488351232 → a4.size ≤ 140737488351232 → ∃ k, palaverlaw01_OctetsBack.f k a0 a1 a2 a3 a4 = some true
end Go.Proofs.Ytjjdfglfjabkjaa.PP
