/-
  FrameBack: a frame that is encoded is decoded as it was.
  Conditions: none of our own (what is read takes at most the model's reach).
-/
import Derived.Test.YtbiempnleljciaaStFrameBack
import Derived.Test.YtbiempnleljciaaFrm5
namespace Go.Proofs.Ytbiempnleljciaa.Pure
open Go.RowKit Go.Proofs.Ytbiempnleljciaa.PP Go.Proofs.YtbiempnleljciaaW.PrintWords Go.Proofs.YtbiempnleljciaaW.PrintLast Go.Proofs.YtbiempnleljciaaW.PrintMore Go.Proofs.Ytbiempnleljciaa.Oct Go.Proofs.Ytbiempnleljciaa.Frm
set_option linter.unusedSimpArgs false
set_option linter.unusedVariables false

theorem FrameBack : palaverlaw07_FrameBack.Stmt := by
  intro kind dt ids bits texts _ _ hi ht
  suffices h : Frm.Ev (fun k => palaverlaw07_FrameBack.f k kind dt ids bits texts) true from h.get
  unfold palaverlaw07_FrameBack.f
  obtain ⟨g, hg⟩ := great_ev kind dt ids bits texts
  refine Frm.Ev.bind hg ?_
  cases g
  · simp only [Bool.false_eq_true, if_false]
    refine Frm.Ev.bind (encode_ev kind dt ids bits texts hi ht) ?_
    have hr := right_ev kind dt ids bits texts hi ht
    unfold encR
    cases h : rightB kind dt ids bits texts
    · rw [h] at hr
      simp only [Bool.false_eq_true, if_false, show ¬ (2 : Int) = 0 by decide]
      refine Frm.Ev.bind hr ?_
      simp only [show (((2 : Int) == 2) == (!false)) = true by decide, if_true]
      exact awake_then
    · rw [h] at hr
      simp only [if_true]
      by_cases c : (enc kind dt ids bits texts).size > 65535
      · simp only [show 65535 < (enc kind dt ids bits texts).size from c, if_true, show ¬ (3 : Int) = 0 by decide, if_false]
        refine Frm.Ev.bind hr ?_
        simp only [show (((3 : Int) == 2) == (!true)) = true by decide, if_true]
        exact awake_then
      · simp only [show ¬ 65535 < (enc kind dt ids bits texts).size from c, if_false, if_true]
        have hb := decode_back h ⟨#[]⟩ (by rw [app_nil]; omega)
        rw [app_nil, if_pos (show (⟨#[]⟩ : ByteArray).size = 0 from rfl)] at hb
        refine Frm.Ev.bind hb ?_
        simp only [if_true]
        refine Frm.Ev.bind (same_right h) ?_
        simp only [if_true]
        exact awake_then
  · simp only [if_true]
    exact awake_then
end Go.Proofs.Ytbiempnleljciaa.Pure
