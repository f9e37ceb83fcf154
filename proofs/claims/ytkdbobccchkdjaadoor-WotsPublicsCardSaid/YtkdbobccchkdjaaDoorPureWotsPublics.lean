/-
  Any key's public is the document's, or there is none.
  Conditions: none.
-/
import Derived.Test.YtkdbobccchkdjaaDoorStWotsPublics
import Derived.Test.YtkdbobccchkdjaaDoorWts3
namespace Go.Proofs.YtkdbobccchkdjaaDoor.Sha
open Go.RowKit Go.Proofs.YtkdbobccchkdjaaDoor.PP Go.Proofs.YtkdbobccchkdjaaDoorW.PrintWords Go.Proofs.YtkdbobccchkdjaaDoorW.PrintLast Go.Proofs.YtkdbobccchkdjaaDoorW.PrintMore
set_option linter.unusedSimpArgs false
set_option linter.unusedVariables false

theorem WotsPublics : palaverlaw03_WotsPublics.Stmt := by
  intro a0 a1 h0 w1
  have yes : Sha.Ev (fun k => palaverlaw03_WotsPublics.j0 k a0 a1 true) true := Ev.succ (G := fun k => (palaverlaw03_awake.f k).bind fun t => some t) (fun k => by simp only [palaverlaw03_WotsPublics.j0]; rw [if_pos trivial]) awake3_then
  refine Ev.get (F := fun k => palaverlaw03_WotsPublics.f k a0 a1) ?_
  unfold palaverlaw03_WotsPublics.f palaverlaw03_long.f
  simp only [Option.bind_some]
  refine ev_long a0 (fun hs => ?_) yes
  refine Ev.bind awake3 ?_
  have he : ((⟨#[]⟩ : ByteArray).toList = ([] : List UInt8)) := by rw [ByteArray.toList_eq]
  refine Ev.succ (G := fun k => (wots_Public.f k a0 a1).bind fun bt => (if a1 < 0 then (if bt.1.toList = ([] : List UInt8) then (some (!bt.2)) else (some false)) else (if a1 > 65535 then (if bt.1.toList = ([] : List UInt8) then (some (!bt.2)) else (some false)) else (if bt.2 = true then ((palaverref03_Public.f k a0 a1).bind fun t => (some (bt.1.toList == t.toList))) else (some false))))) (fun k => by simp only [palaverlaw03_WotsPublics.j0]; rw [if_neg (by decide)]) (Ev.bind (public_ev a0 hs a1) ?_)
  by_cases c : 0 ≤ a1 ∧ a1 ≤ 65535
  · rw [if_pos c]
    refine ifn (by omega) (ifn (by omega) (ifs rfl (Ev.bind (rpublic_ev a0 hs a1 c.1 c.2) ?_)))
    show Sha.Ev (fun k => some ((pb a0 a1).toList == (pb a0 a1).toList)) true
    rw [beq_self_eq_true]
    exact Ev.pure _
  · rw [if_neg c]
    by_cases c1 : a1 < 0
    · exact ifs c1 (ifs he (Ev.pure _))
    · exact ifn c1 (ifs (by omega) (ifs he (Ev.pure _)))
end Go.Proofs.YtkdbobccchkdjaaDoor.Sha
namespace Go.Proofs.YtkdbobccchkdjaaDoor.Pure
open Go.Proofs.YtkdbobccchkdjaaDoor.PP
theorem WotsPublics : palaverlaw03_WotsPublics.Stmt := Sha.WotsPublics
end Go.Proofs.YtkdbobccchkdjaaDoor.Pure
