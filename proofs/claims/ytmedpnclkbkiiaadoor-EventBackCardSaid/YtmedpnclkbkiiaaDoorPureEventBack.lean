/-
  EventBack: an event that is encoded is decoded as it was.
  Conditions: none of our own (what is read takes at most the model's reach; the program's table reads as its text lays it: the card's tie).
-/
import Derived.Test.YtmedpnclkbkiiaaDoorStEventBack
import Derived.Test.YtmedpnclkbkiiaaDoorEvt5
import Derived.Test.YtmedpnclkbkiiaaDoorEvt3
import Derived.Test.YtmedpnclkbkiiaaDoorEvtG
import Derived.Test.YtmedpnclkbkiiaaDoorEvtS
namespace Go.Proofs.YtmedpnclkbkiiaaDoor.Pure
open Go.RowKit Go.Proofs.YtmedpnclkbkiiaaDoor.PP Go.Proofs.YtmedpnclkbkiiaaDoorW.PrintWords Go.Proofs.YtmedpnclkbkiiaaDoorW.PrintLast Go.Proofs.YtmedpnclkbkiiaaDoorW.PrintMore Go.Proofs.YtmedpnclkbkiiaaDoor.Oct Go.Proofs.YtmedpnclkbkiiaaDoor.Oct.Evt
open Go.Proofs.YtmedpnclkbkiiaaDoor.Sha (ifs ifn)
set_option linter.unusedSimpArgs false
set_option linter.unusedVariables false

theorem EventBack : palaverlaw06_EventBack.Stmt := by
  intro kind a ps b s _ hl
  suffices h : Sha.Ev (fun k => palaverlaw06_EventBack.f k kind a ps b s) true from h.get
  unfold palaverlaw06_EventBack.f
  obtain ⟨g, hg⟩ := great_ev kind a ps b s
  refine Sha.Ev.bind hg ?_
  cases g
  · refine ifn (by decide) (Sha.Ev.bind (encode_ev kind a ps b s hl) ?_)
    have hr := right_ev kind a ps b s hl
    unfold encR
    cases h : rightB kind a ps b s
    · rw [h] at hr
      exact ifn (show ¬ (2 : Int) = 0 by decide) (Sha.Ev.bind hr (ifn (by decide) awake_then))
    · exact ifs rfl (Sha.Ev.bind (decode_back h) (ifs rfl (Sha.Ev.bind (same_right h) (ifs rfl awake_then))))
  · exact ifs rfl awake_then
end Go.Proofs.YtmedpnclkbkiiaaDoor.Pure
