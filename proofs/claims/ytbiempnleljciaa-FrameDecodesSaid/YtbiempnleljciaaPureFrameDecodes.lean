/-
  FrameDecodes: any bytes' frame, or why they are none's, is as the document has it.
  Conditions: none of our own (what is read takes at most the model's reach).
-/
import Derived.Test.YtbiempnleljciaaStFrameDecodes
import Derived.Test.YtbiempnleljciaaFrm5
namespace Go.Proofs.Ytbiempnleljciaa.Pure
open Go.RowKit Go.Proofs.Ytbiempnleljciaa.PP Go.Proofs.YtbiempnleljciaaW.PrintWords Go.Proofs.YtbiempnleljciaaW.PrintLast Go.Proofs.YtbiempnleljciaaW.PrintMore Go.Proofs.Ytbiempnleljciaa.Oct Go.Proofs.Ytbiempnleljciaa.Frm
set_option linter.unusedSimpArgs false
set_option linter.unusedVariables false

theorem FrameDecodes : palaverlaw07_FrameDecodes.Stmt := by
  intro s _
  suffices h : Frm.Ev (fun k => palaverlaw07_FrameDecodes.f k s) true from h.get
  unfold palaverlaw07_FrameDecodes.f
  by_cases c : s.size > 65535
  · refine Frm.Ev.bind (decode_long s c) ?_
    simp only [Z, show (s.size : Int) > 65535 by omega, if_true]
    refine Frm.Ev.bind same_none ?_
    simp only [if_true]
    exact awake_then
  · obtain ⟨r, hr, hc⟩ := decode_sound s (by omega)
    obtain ⟨r2, hr2, hc2⟩ := rdecode_sound s (by omega)
    refine Frm.Ev.bind hr ?_
    simp only [show ¬ (s.size : Int) > 65535 by omega, if_false]
    refine Frm.Ev.bind hr2 ?_
    rcases hc with rfl | ⟨kind, dt, ids, bits, texts, h, he, rfl⟩
    · rcases hc2 with rfl | ⟨kind, dt, ids, bits, texts, h, he, rfl⟩
      · simp only [Z, Zr]
        refine Frm.Ev.bind same_none ?_
        simp only [if_true, Bool.false_eq_true, if_false]
        exact awake_then
      · have hb := decode_back h ⟨#[]⟩ (by rw [app_nil, he]; omega)
        rw [app_nil, he, if_pos (show (⟨#[]⟩ : ByteArray).size = 0 from rfl)] at hb
        have := Frm.Ev.one hr hb
        simp [Z] at this
    · have hb := rdecode_back h (by rw [he]; omega)
      rw [he] at hb
      have e := Frm.Ev.one hr2 hb
      subst e
      simp only
      refine Frm.Ev.bind (same_right h) ?_
      simp only [if_true]
      exact awake_then
end Go.Proofs.Ytbiempnleljciaa.Pure
