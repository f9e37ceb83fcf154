-- WRITTEN BY a program of this work (wip/ownprint.py), for this seat
import Derived.Test.YtjpjhbgdaflmgaaPPx4
namespace Go.Proofs.Ytjpjhbgdaflmgaa.PP
open Go.RowKit Go.Proofs.Ytjpjhbgdaflmgaa.PP Go.Proofs.YtjpjhbgdaflmgaaW.PrintWords Go.Proofs.YtjpjhbgdaflmgaaW.PrintLast Go.Proofs.YtjpjhbgdaflmgaaW.PrintMore
/-- What is left of palaver/palaverlaw14.BloomSizes: no machine and no Go in it. -/
def palaverlaw14_BloomSizes.Stmt : Prop := ∀ (a0 : Int) (a1 : ByteArray) (a2 : Int), (Lit.int .i64 a0).wf = true → a1.size ≤ 140737488351232 → (Lit.int .i64 a2).wf = true → ∃ k, palaverlaw14_BloomSizes.f k a0 a1 a2 = some true
end Go.Proofs.Ytjpjhbgdaflmgaa.PP
