/-
  ShaTags: the input of any tag and texts, and its digest, are the document's.
  Conditions: none of our own (what is read takes at most the model's reach; the program's table reads as its text lays it: the card's tie).
-/
import Derived.Test.YtlnodlhlbaigkaaDoorStShaTags
import Derived.Test.YtlnodlhlbaigkaaDoorSha5
namespace Go.Proofs.YtlnodlhlbaigkaaDoor.Pure
open Go.RowKit Go.Proofs.YtlnodlhlbaigkaaDoor.PP Go.Proofs.YtlnodlhlbaigkaaDoorW.PrintWords Go.Proofs.YtlnodlhlbaigkaaDoorW.PrintLast Go.Proofs.YtlnodlhlbaigkaaDoorW.PrintMore Go.Proofs.YtlnodlhlbaigkaaDoor.Sha
set_option linter.unusedSimpArgs false
set_option linter.unusedVariables false

theorem ShaTags : palaverlaw02_ShaTags.Stmt := by
  intro a l wa hl
  have ha : -9223372036854775808 ≤ a ∧ a ≤ 9223372036854775807 := by
    have h := wa
    simp [Lit.wf] at h
    have e1 : IntKind.i64.min = -9223372036854775808 := by decide
    have e2 : IntKind.i64.max = 9223372036854775807 := by decide
    omega
  suffices h : Sha.Ev (fun k => palaverlaw02_ShaTags.f k a l) true from h.get
  obtain ⟨n, hn, c⟩ := size_f l (by omega)
  unfold palaverlaw02_ShaTags.f
  refine Sha.Ev.bind hn ?_
  by_cases k : n > 2000
  · exact ifs k awake_then
  · obtain ⟨l1, l2⟩ := c (by omega)
    obtain ⟨r, h1, h2, _⟩ := sum_same _ (small_size a l l1 l2)
    have hi := input_small a l l1 l2
    have hj := rinput_small a ha l l1 l2
    have ht : Sha.Ev (fun k => sha_Tag.f k a l) r := by
      unfold sha_Tag.f
      exact Sha.Ev.bind hi (Sha.Ev.bind h1 (Sha.Ev.pure _))
    exact ifn k (Sha.Ev.bind hi (Sha.Ev.bind hj (ifs rfl (Sha.Ev.bind ht (Sha.Ev.bind hj (Sha.Ev.bind h2 (ifs rfl awake_then)))))))
end Go.Proofs.YtlnodlhlbaigkaaDoor.Pure
