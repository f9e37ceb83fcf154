/-
  EventRights: which events are right, their bytes and content, are as the document has it.
  Conditions: none of our own (what is read takes at most the model's reach; the program's table reads as its text lays it: the card's tie).
-/
import Derived.Test.YtmedpnclkbkiiaaDoorStEventRights
import Derived.Test.YtmedpnclkbkiiaaDoorEvt5
import Derived.Test.YtmedpnclkbkiiaaDoorEvtR
import Derived.Test.YtmedpnclkbkiiaaDoorEvtG
namespace Go.Proofs.YtmedpnclkbkiiaaDoor.Pure
open Go.RowKit Go.Proofs.YtmedpnclkbkiiaaDoor.PP Go.Proofs.YtmedpnclkbkiiaaDoorW.PrintWords Go.Proofs.YtmedpnclkbkiiaaDoorW.PrintLast Go.Proofs.YtmedpnclkbkiiaaDoorW.PrintMore Go.Proofs.YtmedpnclkbkiiaaDoor.Oct Go.Proofs.YtmedpnclkbkiiaaDoor.Oct.Evt
open Go.Proofs.YtmedpnclkbkiiaaDoor.Sha (ifs ifn)
set_option linter.unusedSimpArgs false
set_option linter.unusedVariables false

/-- What the program's Content answers. -/
noncomputable def conR (kind : Int) (a : ByteArray) (ps : List ByteArray) (b : ByteArray) : ByteArray × Int :=
  if rightB kind a ps b ⟨#[]⟩ = true then (cont kind a ps b, 0) else (⟨#[]⟩, 2)
theorem con_ev (kind : Int) (a : ByteArray) (ps : List ByteArray) (b s : ByteArray) (hl : ps.length ≤ 9223372036854775807) : Sha.Ev (fun k => event_Content.f k kind a ps b s) (conR kind a ps b) := by
  unfold event_Content.f conR
  refine Sha.Ev.bind (right_ev kind a ps b ⟨#[]⟩ hl) ?_
  cases h : rightB kind a ps b ⟨#[]⟩
  · exact Sha.Ev.pure _
  · exact ifs rfl (Sha.Ev.bind (content_ev h ⟨#[]⟩) (Sha.Ev.pure _))
theorem EventRights_j1 (c : ByteArray) (g kind : Int) (a : ByteArray) (ps : List ByteArray) (b : ByteArray) (h : (c, g) = conR kind a ps b) :
    Sha.Ev (fun k => palaverlaw06_EventRights.j1 k c g false kind a ps b ⟨#[]⟩) true := by
  refine Sha.Ev.succ (fun k => palaverlaw06_EventRights.j1.eq_2 c g false kind a ps b ⟨#[]⟩ k) (ifn (by decide) ?_)
  unfold conR at h
  cases hr : rightB kind a ps b ⟨#[]⟩
  · rw [hr] at h
    simp only [Bool.false_eq_true, if_false, Prod.mk.injEq] at h
    obtain ⟨rfl, rfl⟩ := h
    exact ifn (by decide) (ifs rfl (ifs (by rw [ByteArray.toList_eq]) awake_then))
  · rw [hr] at h
    simp only [if_true, Prod.mk.injEq] at h
    obtain ⟨rfl, rfl⟩ := h
    exact ifs rfl (Sha.Ev.bind (rcont_ev hr ⟨#[]⟩) (ifs rfl awake_then))
theorem EventRights : palaverlaw06_EventRights.Stmt := by
  intro kind a ps b s _ hl
  suffices h : Sha.Ev (fun k => palaverlaw06_EventRights.f k kind a ps b s) true from h.get
  unfold palaverlaw06_EventRights.f
  obtain ⟨g, hg⟩ := great_ev kind a ps b s
  refine Sha.Ev.bind hg ?_
  cases g
  · refine ifn (by decide) ?_
    have hR := right_ev kind a ps b s hl
    have rR := rright_ev kind a ps b s hl
    have rB := rright_ev kind a ps b ⟨#[]⟩ hl
    have hE := encode_ev kind a ps b s hl
    have hC := con_ev kind a ps b s hl
    have hj := EventRights_j1 (conR kind a ps b).1 (conR kind a ps b).2 kind a ps b rfl
    have h2 : ((conR kind a ps b).2 == 0) = rightB kind a ps b ⟨#[]⟩ := by
      unfold conR
      cases rightB kind a ps b ⟨#[]⟩ <;> rfl
    refine Sha.Ev.bind hE (Sha.Ev.bind hC (Sha.Ev.bind hR (Sha.Ev.bind rR ?_)))
    refine ifn (by rw [bne_self_eq_false]; decide) (Sha.Ev.bind rR ?_)
    unfold encR
    cases hr : rightB kind a ps b s
    · refine ifn Bool.false_ne_true (Sha.Ev.bind rB ?_)
      rw [h2, bne_self_eq_false]
      refine Sha.Ev.succ (fun k => palaverlaw06_EventRights.j0.eq_2 _ _ _ _ _ _ _ _ _ _ _ _ _ _ _ k) (ifn (by decide) (ifn (show ¬ (2 : Int) = 0 by decide) (ifs (by rw [ByteArray.toList_eq]; rfl) ?_)))
      exact hj
    · refine ifn Bool.false_ne_true (Sha.Ev.bind rB ?_)
      rw [h2, bne_self_eq_false]
      refine Sha.Ev.succ (fun k => palaverlaw06_EventRights.j0.eq_2 _ _ _ _ _ _ _ _ _ _ _ _ _ _ _ k) (ifn (by decide) (ifs rfl (Sha.Ev.bind (rencode_ev hr) (ifs rfl ?_))))
      exact hj
  · exact ifs rfl awake_then
end Go.Proofs.YtmedpnclkbkiiaaDoor.Pure
