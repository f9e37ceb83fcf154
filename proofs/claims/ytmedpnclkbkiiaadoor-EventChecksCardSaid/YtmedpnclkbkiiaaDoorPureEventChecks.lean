/-
  EventChecks: what is wrong with any event is as the document has it.
  Conditions: none of our own (what is read takes at most the model's reach; the program's table reads as its text lays it: the card's tie).
-/
import Derived.Test.YtmedpnclkbkiiaaDoorStEventChecks
import Derived.Test.YtmedpnclkbkiiaaDoorEvt5
import Derived.Test.YtmedpnclkbkiiaaDoorEvtR
import Derived.Test.YtmedpnclkbkiiaaDoorEvtG
import Derived.Test.YtmedpnclkbkiiaaDoorChk2
namespace Go.Proofs.YtmedpnclkbkiiaaDoor.Pure
open Go.RowKit Go.Proofs.YtmedpnclkbkiiaaDoor.PP Go.Proofs.YtmedpnclkbkiiaaDoorW.PrintWords Go.Proofs.YtmedpnclkbkiiaaDoorW.PrintLast Go.Proofs.YtmedpnclkbkiiaaDoorW.PrintMore Go.Proofs.YtmedpnclkbkiiaaDoor.Oct Go.Proofs.YtmedpnclkbkiiaaDoor.Oct.Evt
open Go.Proofs.YtmedpnclkbkiiaaDoor.Sha (ifs ifn)
set_option linter.unusedSimpArgs false
set_option linter.unusedVariables false

/-- What the program's Content answers. -/
noncomputable def conR (kind : Int) (a : ByteArray) (ps : List ByteArray) (b : ByteArray) : ByteArray × Int :=
  if rightB kind a ps b ⟨#[]⟩ = true then (cont kind a ps b, 0) else (⟨#[]⟩, 2)
theorem con_ev (kind : Int) (a : ByteArray) (ps : List ByteArray) (b s : ByteArray) (hl : ps.length ≤ 9223372036854775807) : Sha.Ev (fun k => event_Content.f k kind a ps b s) (conR kind a ps b) := by
  unfold event_Content.f conR
  refine Sha.Ev.bind (right_ev kind a ps b ⟨#[]⟩ hl) ?_
  cases h : rightB kind a ps b ⟨#[]⟩
  · exact Sha.Ev.pure _
  · exact ifs rfl (Sha.Ev.bind (content_ev h ⟨#[]⟩) (Sha.Ev.pure _))
theorem check_form (c : ByteArray) (kind : Int) (a : ByteArray) (ps : List ByteArray) (b s : ByteArray) : Sha.Ev (fun k => event_Check.j0 k c true kind a ps b s) 2 :=
  Sha.Ev.succ (fun k => event_Check.j0.eq_2 c true kind a ps b s k) (ifs rfl (Sha.Ev.pure _))
theorem EventChecks : palaverlaw06_EventChecks.Stmt := by
  intro kind a ps b s _ hl
  suffices h : Sha.Ev (fun k => palaverlaw06_EventChecks.f k kind a ps b s) true from h.get
  unfold palaverlaw06_EventChecks.f
  obtain ⟨g, hg⟩ := great_ev kind a ps b s
  refine Sha.Ev.bind hg ?_
  cases g
  · refine ifn (by decide) ?_
    have hR := right_ev kind a ps b s hl
    have rR := rright_ev kind a ps b s hl
    have hC := con_ev kind a ps b s hl
    refine Sha.Ev.bind rR ?_
    cases hr : rightB kind a ps b s
    · refine ifn (by decide) (Sha.Ev.bind (v := 2) ?_ (ifs rfl awake_then))
      unfold event_Check.f
      refine Sha.Ev.bind hC ?_
      unfold conR
      cases hb : rightB kind a ps b ⟨#[]⟩
      · exact ifn (show ¬ (2 : Int) = 0 by decide) (check_form _ kind a ps b s)
      · refine ifs rfl (Sha.Ev.bind hR ?_)
        rw [hr]
        exact check_form _ kind a ps b s
    · have hb := right_bare hr
      obtain ⟨_, _, h3, h4, h5, h6, h7⟩ := right_has hr
      have hz := cont_size hr
      obtain ⟨v, road, v1, v2⟩ := verify_same a (cont kind a ps b) s (by omega) (by omega)
      have hck : Sha.Ev (fun k => event_Check.f k kind a ps b s) (if v = true then 0 else 4) := by
        unfold event_Check.f
        refine Sha.Ev.bind hC ?_
        unfold conR
        rw [if_pos hb]
        refine ifs rfl (Sha.Ev.bind hR ?_)
        rw [hr]
        refine Sha.Ev.succ (fun k => event_Check.j0.eq_2 (cont kind a ps b) (!true) kind a ps b s k) (ifn (by decide) (Sha.Ev.bind v1 ?_))
        cases v
        · exact ifn (by decide) (Sha.Ev.pure _)
        · exact ifs rfl (Sha.Ev.pure _)
      have hsg : Sha.Ev (fun k => palaverref06_Signed.f k kind a ps b s) v := by
        unfold palaverref06_Signed.f
        exact Sha.Ev.bind (rcont_ev hr s) (Sha.Ev.bind v2 (Sha.Ev.pure _))
      refine ifs rfl (Sha.Ev.bind hsg ?_)
      cases v
      · exact ifn (by decide) (Sha.Ev.bind hck (ifs rfl awake_then))
      · exact ifs rfl (Sha.Ev.bind hck (ifs rfl awake_then))
  · exact ifs rfl awake_then
end Go.Proofs.YtmedpnclkbkiiaaDoor.Pure
