/-
  Any digest's digits are the document's, or it is none.
  Conditions: none.
-/
import Derived.Test.YtkdbobccchkdjaaDoorStWotsDigits
import Derived.Test.YtkdbobccchkdjaaDoorWts2
import Derived.Test.YtkdbobccchkdjaaDoorPPx6
namespace Go.Proofs.YtkdbobccchkdjaaDoor.Sha
open Go.RowKit Go.Proofs.YtkdbobccchkdjaaDoor.PP Go.Proofs.YtkdbobccchkdjaaDoorW.PrintWords Go.Proofs.YtkdbobccchkdjaaDoorW.PrintLast Go.Proofs.YtkdbobccchkdjaaDoorW.PrintMore
set_option linter.unusedSimpArgs false
set_option linter.unusedVariables false

theorem same3_l (l : List Int) (hl : l.length ≤ 900) : ∀ (d j : Nat), j + d = l.length → Sha.Ev (fun k => palaverlaw03_same.l0 k l l (j : Int)) true
  | 0, j, hj => by
    refine Ev.succ (G := fun _ => some true) (fun k => ?_) (Ev.pure _)
    simp only [palaverlaw03_same.l0]
    rw [if_neg (by omega)]
  | d + 1, j, hj => by
    refine Ev.succ (fun k => ?_) (same3_l l hl d (j + 1) (by omega))
    simp only [palaverlaw03_same.l0, upI j (by omega)]
    rw [if_pos (by omega), if_pos (by omega), if_pos (by omega), if_pos trivial]
theorem same3_ev (l : List Int) (hl : l.length ≤ 900) : Sha.Ev (fun k => palaverlaw03_same.f k l l) true := by
  unfold palaverlaw03_same.f
  exact ifs rfl (same3_l l hl l.length 0 (by omega))
theorem WotsDigits : palaverlaw03_WotsDigits.Stmt := by
  intro a0 h0
  refine Ev.get (F := fun k => palaverlaw03_WotsDigits.f k a0) ?_
  unfold palaverlaw03_WotsDigits.f
  refine Ev.bind (digits_ev a0) ?_
  by_cases c : a0.size = 32
  · rw [if_pos c]
    have hl := Dg_len a0 c
    exact ifs (by omega) (ifs rfl (Ev.bind (rdigits_ev a0 c) (Ev.bind (same3_ev (Dg a0) (by omega)) (ifs rfl awake3_then))))
  · rw [if_neg c]
    exact ifn (by omega) (ifs rfl (ifn (by decide) awake3_then))
end Go.Proofs.YtkdbobccchkdjaaDoor.Sha
namespace Go.Proofs.YtkdbobccchkdjaaDoor.Pure
open Go.Proofs.YtkdbobccchkdjaaDoor.PP
theorem WotsDigits : palaverlaw03_WotsDigits.Stmt := Sha.WotsDigits
end Go.Proofs.YtkdbobccchkdjaaDoor.Pure
