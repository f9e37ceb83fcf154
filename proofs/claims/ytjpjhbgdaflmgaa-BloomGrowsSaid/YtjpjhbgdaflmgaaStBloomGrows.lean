-- WRITTEN BY a program of this work (wip/ownprint.py), for this seat
import Derived.Test.YtjpjhbgdaflmgaaPPx8
namespace Go.Proofs.Ytjpjhbgdaflmgaa.PP
open Go.RowKit Go.Proofs.Ytjpjhbgdaflmgaa.PP Go.Proofs.YtjpjhbgdaflmgaaW.PrintWords Go.Proofs.YtjpjhbgdaflmgaaW.PrintLast Go.Proofs.YtjpjhbgdaflmgaaW.PrintMore
/-- What is left of palaver/palaverlaw14.BloomGrows: no machine and no Go in it. -/
def palaverlaw14_BloomGrows.Stmt : Prop := ∀ (l0 : List ByteArray) (a1 : ByteArray), l0.length * 16 ≤ 140737488351232 → a1.size ≤ 140737488351232 → ∃ k, palaverlaw14_BloomGrows.f k l0 a1 = some true
end Go.Proofs.Ytjpjhbgdaflmgaa.PP
