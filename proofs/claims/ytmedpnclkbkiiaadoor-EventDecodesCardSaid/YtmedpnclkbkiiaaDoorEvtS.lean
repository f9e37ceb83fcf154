/-
  Events: an event is the same as itself.
  Conditions: none.
-/
import Derived.Test.YtmedpnclkbkiiaaDoorEvt1
import Derived.Test.YtmedpnclkbkiiaaDoorPPx7
namespace Go.Proofs.YtmedpnclkbkiiaaDoor.Oct.Evt
open Go.RowKit Go.Proofs.YtmedpnclkbkiiaaDoor.PP Go.Proofs.YtmedpnclkbkiiaaDoorW.PrintWords Go.Proofs.YtmedpnclkbkiiaaDoorW.PrintLast Go.Proofs.YtmedpnclkbkiiaaDoorW.PrintMore
open Go.Proofs.YtmedpnclkbkiiaaDoor.Sha (ifs ifn)
set_option linter.unusedSimpArgs false
set_option linter.unusedVariables false

theorem same_loop (kind : Int) (a : ByteArray) (l : List ByteArray) (b s : ByteArray) (hl : l.length ≤ 9223372036854775806) : ∀ m i : Nat, i + m = l.length → Sha.Ev (fun k => palaverref06_Same.l0 k (i : Int) kind a l b s kind a l b s) true
  | 0, i, h => by
    refine Sha.Ev.succ (G := fun _ => some true) (fun k => ?_) (Sha.Ev.pure _)
    simp only [palaverref06_Same.l0]
    rw [if_neg (by omega)]
  | m + 1, i, h => by
    have ih := same_loop kind a l b s hl m (i + 1) (by omega)
    have e2 : wrap64 ((i : Int) + 1) = ((i + 1 : Nat) : Int) := by rw [w64 (by omega) (by omega)]; omega
    refine Sha.Ev.succ (fun k => ?_) ih
    simp only [palaverref06_Same.l0, e2]
    rw [if_pos (by omega), if_pos (by omega), if_pos (by omega), if_pos trivial]
theorem same_ev (kind : Int) (a : ByteArray) (l : List ByteArray) (b s : ByteArray) (hl : l.length ≤ 9223372036854775806) :
    Sha.Ev (fun k => palaverref06_Same.f k kind a l b s kind a l b s) true := by
  unfold palaverref06_Same.f
  simp only [if_true]
  rw [show ((l.length : Int) != (l.length : Int)) = false from bne_self_eq_false _]
  exact Sha.Ev.succ (fun k => palaverref06_Same.j0.eq_2 false kind a l b s kind a l b s k) (ifn (by decide) (same_loop kind a l b s hl l.length 0 (by omega)))
theorem same_right {kind : Int} {a : ByteArray} {ps : List ByteArray} {b s : ByteArray} (h : rightB kind a ps b s = true) : Sha.Ev (fun k => palaverref06_Same.f k kind a ps b s kind a ps b s) true :=
  same_ev kind a ps b s (by have := (right_has h).2.2.2.1; omega)
theorem same_none : Sha.Ev (fun k => palaverref06_Same.f k 0 ⟨#[]⟩ [] ⟨#[]⟩ ⟨#[]⟩ 0 ⟨#[]⟩ [] ⟨#[]⟩ ⟨#[]⟩) true := same_ev 0 ⟨#[]⟩ [] ⟨#[]⟩ ⟨#[]⟩ (by simp)
end Go.Proofs.YtmedpnclkbkiiaaDoor.Oct.Evt
