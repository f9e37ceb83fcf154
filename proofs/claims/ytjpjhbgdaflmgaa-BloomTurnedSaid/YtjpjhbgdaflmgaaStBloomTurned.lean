-- WRITTEN BY a program of this work (wip/ownprint.py), for this seat
import Derived.Test.YtjpjhbgdaflmgaaPPx7
namespace Go.Proofs.Ytjpjhbgdaflmgaa.PP
open Go.RowKit Go.Proofs.Ytjpjhbgdaflmgaa.PP Go.Proofs.YtjpjhbgdaflmgaaW.PrintWords Go.Proofs.YtjpjhbgdaflmgaaW.PrintLast Go.Proofs.YtjpjhbgdaflmgaaW.PrintMore
/-- What is left of palaver/palaverlaw14.BloomTurned: no machine and no Go in it. -/
def palaverlaw14_BloomTurned.Stmt : Prop := ∀ (l0 : List ByteArray) (a1 : Int), l0.length * 16 ≤ 140737488351232 → (Lit.int .i64 a1).wf = true → ∃ k, palaverlaw14_BloomTurned.f k l0 a1 = some true
end Go.Proofs.Ytjpjhbgdaflmgaa.PP
