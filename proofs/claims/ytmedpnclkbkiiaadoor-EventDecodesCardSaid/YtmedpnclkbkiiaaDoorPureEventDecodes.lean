/-
  EventDecodes: any bytes' event, or that they are none's, and their name, is as the document has it.
  Conditions: none of our own (what is read takes at most the model's reach; the program's table reads as its text lays it: the card's tie).
-/
import Derived.Test.YtmedpnclkbkiiaaDoorStEventDecodes
import Derived.Test.YtmedpnclkbkiiaaDoorEvt5
import Derived.Test.YtmedpnclkbkiiaaDoorEvt4
import Derived.Test.YtmedpnclkbkiiaaDoorEvtS
namespace Go.Proofs.YtmedpnclkbkiiaaDoor.Pure
open Go.RowKit Go.Proofs.YtmedpnclkbkiiaaDoor.PP Go.Proofs.YtmedpnclkbkiiaaDoorW.PrintWords Go.Proofs.YtmedpnclkbkiiaaDoorW.PrintLast Go.Proofs.YtmedpnclkbkiiaaDoorW.PrintMore Go.Proofs.YtmedpnclkbkiiaaDoor.Oct Go.Proofs.YtmedpnclkbkiiaaDoor.Oct.Evt
open Go.Proofs.YtmedpnclkbkiiaaDoor.Sha (ifs ifn)
set_option linter.unusedSimpArgs false
set_option linter.unusedVariables false

theorem EventDecodes : palaverlaw06_EventDecodes.Stmt := by
  intro s _
  suffices h : Sha.Ev (fun k => palaverlaw06_EventDecodes.f k s) true from h.get
  unfold palaverlaw06_EventDecodes.f
  by_cases c : (s.size : Int) > 4000
  · exact ifs c awake_then
  · refine ifn c ?_
    obtain ⟨n, hn, hn2⟩ := id_same s (by omega)
    obtain ⟨r, hr, hc⟩ := decode_sound s
    obtain ⟨r2, hr2, hc2⟩ := rdecode_sound s (by omega)
    refine Sha.Ev.bind hr (Sha.Ev.bind hr2 ?_)
    rcases hc with rfl | ⟨kind, a, ps, b, g, h, he, rfl⟩
    · rcases hc2 with rfl | ⟨kind, a, ps, b, g, h, he, rfl⟩
      · refine Sha.Ev.bind same_none (ifs rfl (ifs (by decide) (ifn (by decide) (ifs rfl ?_))))
        exact Sha.Ev.bind hn (Sha.Ev.bind hn2 (ifs rfl awake_then))
      · have hb := decode_back h
        rw [he] at hb
        have := Sha.Ev.one hr hb
        simp [Z] at this
    · have hb := rdecode_back h (by rw [he]; omega)
      rw [he] at hb
      have e := Sha.Ev.one hr2 hb
      subst e
      refine Sha.Ev.bind (same_right h) (ifs rfl (ifs rfl (ifs rfl ?_)))
      exact Sha.Ev.bind hn (Sha.Ev.bind hn2 (ifs rfl awake_then))
end Go.Proofs.YtmedpnclkbkiiaaDoor.Pure
