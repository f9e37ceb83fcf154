/-
  Where a path leads from a leaf is the document's answer.
  Conditions: none.
-/
import Derived.Test.YtmnppogihmhdgaaDoorStMerkleFolds
import Derived.Test.YtmnppogihmhdgaaDoorMrk3
namespace Go.Proofs.YtmnppogihmhdgaaDoor.Sha
open Go.RowKit Go.Proofs.YtmnppogihmhdgaaDoor.PP Go.Proofs.YtmnppogihmhdgaaDoorW.PrintWords Go.Proofs.YtmnppogihmhdgaaDoorW.PrintLast Go.Proofs.YtmnppogihmhdgaaDoorW.PrintMore
set_option linter.unusedSimpArgs false
set_option linter.unusedVariables false

theorem MerkleFolds : palaverlaw04_MerkleFolds.Stmt := by
  intro a0 a1 l2 h0 h1 h2
  obtain ⟨b, hb, hc⟩ := long_ev4 l2 (by omega)
  have yes : Sha.Ev (fun k => palaverlaw04_MerkleFolds.j0 k a0 a1 l2 true) true := Ev.succ (G := fun k => (palaverlaw04_awake.f k).bind fun t => some t) (fun k => by simp only [palaverlaw04_MerkleFolds.j0]; rw [if_pos trivial]) awake4_then
  refine Ev.get (F := fun k => palaverlaw04_MerkleFolds.f k a0 a1 l2) ?_
  unfold palaverlaw04_MerkleFolds.f
  refine Ev.bind hb ?_
  cases b with
  | true => exact ifs rfl yes
  | false =>
    refine ifn (by decide) ?_
    by_cases c : (a0.size : Int) > 300
    · rw [decide_eq_true c]
      exact yes
    · rw [decide_eq_false c]
      have hs : l2.length ≤ 4 → ∀ s ∈ l2, s.size ≤ 300 := fun h => hc rfl (by omega)
      obtain ⟨e1, e2⟩ := fold_rfold a0 a1 l2
      refine Ev.succ (G := fun k => (merkle_Fold.f k a0 a1 l2).bind fun u => (palaverref04_Fold.f k a0 a1 l2).bind fun v => (if u.1.toList = v.1.toList then (if (u.2 == v.2.2) = true then ((palaverlaw04_awake.f k).bind fun t => some t) else (some false)) else (some false))) (fun k => by simp only [palaverlaw04_MerkleFolds.j0]; rw [if_neg (by decide)]) (Ev.bind (fold_ev a0 (by omega) a1 l2 hs) (Ev.bind (rfold_ev a0 (by omega) a1 l2 hs) ?_))
      exact ifs (by rw [e1]) (ifs (by rw [e2]; simp) awake4_then)
end Go.Proofs.YtmnppogihmhdgaaDoor.Sha
namespace Go.Proofs.YtmnppogihmhdgaaDoor.Pure
open Go.Proofs.YtmnppogihmhdgaaDoor.PP
theorem MerkleFolds : palaverlaw04_MerkleFolds.Stmt := Sha.MerkleFolds
end Go.Proofs.YtmnppogihmhdgaaDoor.Pure
