/-
  FrameEncodes: whether any frame is right, and its bytes, or why it has none, is as the document has it.
  Conditions: none of our own (what is read takes at most the model's reach).
-/
import Derived.Test.YtbiempnleljciaaStFrameEncodes
import Derived.Test.YtbiempnleljciaaFrm5
namespace Go.Proofs.Ytbiempnleljciaa.Pure
open Go.RowKit Go.Proofs.Ytbiempnleljciaa.PP Go.Proofs.YtbiempnleljciaaW.PrintWords Go.Proofs.YtbiempnleljciaaW.PrintLast Go.Proofs.YtbiempnleljciaaW.PrintMore Go.Proofs.Ytbiempnleljciaa.Oct Go.Proofs.Ytbiempnleljciaa.Frm
set_option linter.unusedSimpArgs false
set_option linter.unusedVariables false

theorem FrameEncodes : palaverlaw07_FrameEncodes.Stmt := by
  intro kind dt ids bits texts _ _ hi ht
  suffices h : Frm.Ev (fun k => palaverlaw07_FrameEncodes.f k kind dt ids bits texts) true from h.get
  unfold palaverlaw07_FrameEncodes.f
  obtain ⟨g, hg⟩ := great_ev kind dt ids bits texts
  refine Frm.Ev.bind hg ?_
  cases g
  · simp only [Bool.false_eq_true, if_false]
    refine Frm.Ev.bind (encode_ev kind dt ids bits texts hi ht) (Frm.Ev.bind (rright_ev kind dt ids bits texts hi ht) ?_)
    have hr := right_ev kind dt ids bits texts hi ht
    unfold encR
    cases h : rightB kind dt ids bits texts
    · rw [h] at hr
      simp only [Bool.false_eq_true, if_false]
      refine Frm.Ev.bind hr ?_
      simp only [Bool.false_eq_true, if_false, show (⟨#[]⟩ : ByteArray).toList = [] by rw [ByteArray.toList_eq], if_true]
      exact awake_then
    · rw [h] at hr
      simp only [if_true]
      refine Frm.Ev.bind (rencode_ev h) ?_
      by_cases c : (enc kind dt ids bits texts).size > 65535
      · simp only [show ((enc kind dt ids bits texts).size : Int) > 65535 by omega, show 65535 < (enc kind dt ids bits texts).size from c, if_true]
        refine Frm.Ev.bind hr ?_
        simp only [show (⟨#[]⟩ : ByteArray).toList = [] by rw [ByteArray.toList_eq], if_true]
        exact awake_then
      · simp only [show ¬ ((enc kind dt ids bits texts).size : Int) > 65535 by omega, show ¬ 65535 < (enc kind dt ids bits texts).size from c, if_false]
        refine Frm.Ev.bind hr ?_
        simp only [if_true]
        exact awake_then
  · simp only [if_true]
    exact awake_then
end Go.Proofs.Ytbiempnleljciaa.Pure
