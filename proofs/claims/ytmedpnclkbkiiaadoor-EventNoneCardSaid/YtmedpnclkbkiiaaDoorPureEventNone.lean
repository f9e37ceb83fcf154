/-
  EventNone: without a key nothing is signed.
  Conditions: none of our own (what is read takes at most the model's reach; the program's table reads as its text lays it: the card's tie).
-/
import Derived.Test.YtmedpnclkbkiiaaDoorStEventNone
import Derived.Test.YtmedpnclkbkiiaaDoorEvt5
import Derived.Test.YtmedpnclkbkiiaaDoorEvtG
import Derived.Test.YtmedpnclkbkiiaaDoorEvtS
namespace Go.Proofs.YtmedpnclkbkiiaaDoor.Pure
open Go.RowKit Go.Proofs.YtmedpnclkbkiiaaDoor.PP Go.Proofs.YtmedpnclkbkiiaaDoorW.PrintWords Go.Proofs.YtmedpnclkbkiiaaDoorW.PrintLast Go.Proofs.YtmedpnclkbkiiaaDoorW.PrintMore Go.Proofs.YtmedpnclkbkiiaaDoor.Oct Go.Proofs.YtmedpnclkbkiiaaDoor.Oct.Evt
open Go.Proofs.YtmedpnclkbkiiaaDoor.Sha (ifs ifn)
set_option linter.unusedSimpArgs false
set_option linter.unusedVariables false

theorem EventNone : palaverlaw06_EventNone.Stmt := by
  intro kind a ps b s _ hl
  suffices h : Sha.Ev (fun k => palaverlaw06_EventNone.f k kind a ps b s) true from h.get
  unfold palaverlaw06_EventNone.f
  obtain ⟨g, hg⟩ := great_ev kind a ps b s
  refine Sha.Ev.bind hg ?_
  cases g
  · exact ifn (by decide) (Sha.Ev.bind same_none (ifs rfl awake_ev))
  · exact ifs rfl awake_ev
end Go.Proofs.YtmedpnclkbkiiaaDoor.Pure
