/-
  Any steps on any chain, and any chain's secret, are the document's.
  Conditions: none.
-/
import Derived.Test.YtkdbobccchkdjaaDoorStWotsChains
import Derived.Test.YtkdbobccchkdjaaDoorWts2
namespace Go.Proofs.YtkdbobccchkdjaaDoor.Sha
open Go.RowKit Go.Proofs.YtkdbobccchkdjaaDoor.PP Go.Proofs.YtkdbobccchkdjaaDoorW.PrintWords Go.Proofs.YtkdbobccchkdjaaDoorW.PrintLast Go.Proofs.YtkdbobccchkdjaaDoorW.PrintMore
set_option linter.unusedSimpArgs false
set_option linter.unusedVariables false

theorem wf64 {a : Int} (h : (Lit.int .i64 a).wf = true) : -9223372036854775808 ≤ a ∧ a ≤ 9223372036854775807 := by
  simp [Lit.wf] at h
  have e1 : IntKind.i64.min = -9223372036854775808 := by decide
  have e2 : IntKind.i64.max = 9223372036854775807 := by decide
  omega
theorem WotsChains : palaverlaw03_WotsChains.Stmt := by
  intro a0 a1 a2 a3 w0 h1 w2 w3
  have g0 := wf64 w0
  refine Ev.get (F := fun k => palaverlaw03_WotsChains.f k a0 a1 a2 a3) ?_
  unfold palaverlaw03_WotsChains.f
  unfold palaverlaw03_long.f
  simp only [Option.bind_some]
  refine ev_long a1 (fun hs => ?_) awake3_then
  have last : Sha.Ev (fun k => palaverlaw03_WotsChains.j1 k a0 a1 a2 false) true := by
    refine Ev.succ (G := fun k => (wots_Chain.f k a0 a1 a2).bind fun t => (palaverref03_Chain.f k a0 a1 a2).bind fun u => (if t.toList = u.toList then ((palaverlaw03_awake.f k).bind fun z => some z) else (some false))) (fun k => ?_) (Ev.bind (chain_ev a0 a2 a1 hs) (Ev.bind (rchain_ev a0 a2 g0.1 g0.2 a1 hs) (ifs rfl awake3_then)))
    simp only [palaverlaw03_WotsChains.j1]
    rw [if_neg (by decide)]
  have no : Sha.Ev (fun k => palaverlaw03_WotsChains.j0 k a0 a1 a2 a3 (⟨#[]⟩ : ByteArray) false false) true := by
    refine Ev.succ (fun k => ?_) last
    simp only [palaverlaw03_WotsChains.j0]
    rw [if_neg (by decide), if_neg (by decide)]
    rw [show ((⟨#[]⟩ : ByteArray).toList != ([] : List UInt8)) = false by rw [ByteArray.toList_eq]; rfl]
  refine Ev.bind (secret_ev a1 hs a3 a0) ?_
  by_cases c : (0 ≤ a3 ∧ a3 ≤ 65535) ∧ 0 ≤ a0 ∧ a0 ≤ 66
  · rw [if_pos c]
    refine ifs (by omega) (ifs (by omega) (ifs (by omega) ?_))
    rw [decide_eq_true (show a0 ≤ 66 by omega)]
    obtain ⟨q, rfl⟩ : ∃ q : Nat, a0 = (q : Int) := ⟨a0.toNat, by omega⟩
    refine Ev.succ (G := fun k => (palaverref03_Secret.f k a1 a3 (q : Int)).bind fun t => (if (sc a1 a3 q).toList = t.toList then (palaverlaw03_WotsChains.j1 k (q : Int) a1 a2 false) else (palaverlaw03_WotsChains.j1 k (q : Int) a1 a2 true))) (fun k => ?_) (Ev.bind (rsecret_ev a1 hs a3 q (by omega) (by omega) (by omega)) (ifs rfl last))
    simp only [palaverlaw03_WotsChains.j0]
    rw [if_neg (by decide), if_pos trivial]
    rfl
  · rw [if_neg c]
    by_cases c1 : a3 ≥ 0
    · refine ifs c1 ?_
      by_cases c2 : a3 ≤ 65535
      · refine ifs c2 ?_
        by_cases c3 : a0 ≥ 0
        · refine ifs c3 ?_
          rw [decide_eq_false (show ¬ a0 ≤ 66 by omega)]
          exact no
        · exact ifn c3 no
      · exact ifn c2 no
    · exact ifn c1 no
end Go.Proofs.YtkdbobccchkdjaaDoor.Sha
namespace Go.Proofs.YtkdbobccchkdjaaDoor.Pure
open Go.Proofs.YtkdbobccchkdjaaDoor.PP
theorem WotsChains : palaverlaw03_WotsChains.Stmt := Sha.WotsChains
end Go.Proofs.YtkdbobccchkdjaaDoor.Pure
