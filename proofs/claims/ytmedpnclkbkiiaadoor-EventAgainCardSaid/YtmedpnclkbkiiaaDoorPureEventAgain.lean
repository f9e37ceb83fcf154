/-
  EventAgain: bytes that are decoded are encoded as they were.
  Conditions: none of our own (what is read takes at most the model's reach; the program's table reads as its text lays it: the card's tie).
-/
import Derived.Test.YtmedpnclkbkiiaaDoorStEventAgain
import Derived.Test.YtmedpnclkbkiiaaDoorEvt5
import Derived.Test.YtmedpnclkbkiiaaDoorEvt3
import Derived.Test.YtmedpnclkbkiiaaDoorEvtS
namespace Go.Proofs.YtmedpnclkbkiiaaDoor.Pure
open Go.RowKit Go.Proofs.YtmedpnclkbkiiaaDoor.PP Go.Proofs.YtmedpnclkbkiiaaDoorW.PrintWords Go.Proofs.YtmedpnclkbkiiaaDoorW.PrintLast Go.Proofs.YtmedpnclkbkiiaaDoorW.PrintMore Go.Proofs.YtmedpnclkbkiiaaDoor.Oct Go.Proofs.YtmedpnclkbkiiaaDoor.Oct.Evt
open Go.Proofs.YtmedpnclkbkiiaaDoor.Sha (ifs ifn)
set_option linter.unusedSimpArgs false
set_option linter.unusedVariables false

theorem EventAgain : palaverlaw06_EventAgain.Stmt := by
  intro s _
  suffices h : Sha.Ev (fun k => palaverlaw06_EventAgain.f k s) true from h.get
  unfold palaverlaw06_EventAgain.f
  by_cases c : (s.size : Int) > 4000
  · exact ifs c awake_then
  · refine ifn c ?_
    obtain ⟨r, hr, hc⟩ := decode_sound s
    refine Sha.Ev.bind hr ?_
    rcases hc with rfl | ⟨kind, a, ps, b, g, h, he, rfl⟩
    · exact ifn (by decide) (Sha.Ev.bind same_none (ifs rfl awake_then))
    · have e := encode_ev kind a ps b g (by have := (right_has h).2.2.2.1; omega)
      unfold encR at e
      rw [if_pos h] at e
      exact ifs rfl (Sha.Ev.bind e (ifs rfl (ifs (by rw [he]) awake_then)))
end Go.Proofs.YtmedpnclkbkiiaaDoor.Pure
