/-
  FrameAgain: bytes that are decoded are encoded as they were.
  Conditions: none of our own (what is read takes at most the model's reach).
-/
import Derived.Test.YtbiempnleljciaaStFrameAgain
import Derived.Test.YtbiempnleljciaaFrm5
namespace Go.Proofs.Ytbiempnleljciaa.Pure
open Go.RowKit Go.Proofs.Ytbiempnleljciaa.PP Go.Proofs.YtbiempnleljciaaW.PrintWords Go.Proofs.YtbiempnleljciaaW.PrintLast Go.Proofs.YtbiempnleljciaaW.PrintMore Go.Proofs.Ytbiempnleljciaa.Oct Go.Proofs.Ytbiempnleljciaa.Frm
set_option linter.unusedSimpArgs false
set_option linter.unusedVariables false

theorem FrameAgain : palaverlaw07_FrameAgain.Stmt := by
  intro s _
  suffices h : Frm.Ev (fun k => palaverlaw07_FrameAgain.f k s) true from h.get
  unfold palaverlaw07_FrameAgain.f
  by_cases c : s.size > 65535
  · refine Frm.Ev.bind (decode_long s c) ?_
    simp only [Z, show ¬ (3 : Int) = 0 by decide, if_false]
    refine Frm.Ev.bind same_none ?_
    simp only [if_true]
    exact awake_then
  · obtain ⟨r, hr, hc⟩ := decode_sound s (by omega)
    refine Frm.Ev.bind hr ?_
    rcases hc with rfl | ⟨kind, dt, ids, bits, texts, h, he, rfl⟩
    · simp only [Z, show ¬ (2 : Int) = 0 by decide, if_false]
      refine Frm.Ev.bind same_none ?_
      simp only [if_true]
      exact awake_then
    · simp only [if_true]
      have hl := right_len h
      have hb := encode_ev kind dt ids bits texts (by omega) (by omega)
      unfold encR at hb
      rw [h, if_pos rfl, he, if_neg c] at hb
      refine Frm.Ev.bind hb ?_
      simp only [if_true]
      exact awake_then
end Go.Proofs.Ytbiempnleljciaa.Pure
