/-
  ShaSums: the digest of any bytes is the document's.
  Conditions: none of our own (what is read takes at most the model's reach; the program's table reads as its text lays it: the card's tie).
-/
import Derived.Test.YtlnodlhlbaigkaaDoorStShaSums
import Derived.Test.YtlnodlhlbaigkaaDoorSha5
namespace Go.Proofs.YtlnodlhlbaigkaaDoor.Pure
open Go.RowKit Go.Proofs.YtlnodlhlbaigkaaDoor.PP Go.Proofs.YtlnodlhlbaigkaaDoorW.PrintWords Go.Proofs.YtlnodlhlbaigkaaDoorW.PrintLast Go.Proofs.YtlnodlhlbaigkaaDoorW.PrintMore Go.Proofs.YtlnodlhlbaigkaaDoor.Sha
set_option linter.unusedSimpArgs false
set_option linter.unusedVariables false

theorem ShaSums : palaverlaw02_ShaSums.Stmt := by
  intro s _
  suffices h : Sha.Ev (fun k => palaverlaw02_ShaSums.f k s) true from h.get
  unfold palaverlaw02_ShaSums.f
  by_cases c : (s.size : Int) > 2000
  · exact ifs c awake_then
  · obtain ⟨r, h1, h2, _⟩ := sum_same s (by omega)
    exact ifn c (Sha.Ev.bind h1 (Sha.Ev.bind h2 (ifs rfl awake_then)))
end Go.Proofs.YtlnodlhlbaigkaaDoor.Pure
