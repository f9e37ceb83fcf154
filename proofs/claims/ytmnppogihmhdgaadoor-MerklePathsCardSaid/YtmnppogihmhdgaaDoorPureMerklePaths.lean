/-
  Any leaf's path is the document's, or there is none.
  Conditions: none.
-/
import Derived.Test.YtmnppogihmhdgaaDoorStMerklePaths
import Derived.Test.YtmnppogihmhdgaaDoorMrk4
import Derived.Test.YtmnppogihmhdgaaDoorPPx11
namespace Go.Proofs.YtmnppogihmhdgaaDoor.Sha
open Go.RowKit Go.Proofs.YtmnppogihmhdgaaDoor.PP Go.Proofs.YtmnppogihmhdgaaDoorW.PrintWords Go.Proofs.YtmnppogihmhdgaaDoorW.PrintLast Go.Proofs.YtmnppogihmhdgaaDoorW.PrintMore
set_option linter.unusedSimpArgs false
set_option linter.unusedVariables false

theorem same_l (l : List ByteArray) (hl : l.length ≤ 900) : ∀ (d j : Nat), j + d = l.length → Sha.Ev (fun k => palaverlaw04_same.l0 k l l (j : Int)) true
  | 0, j, hj => by
    refine Ev.succ (G := fun _ => some true) (fun k => ?_) (Ev.pure _)
    simp only [palaverlaw04_same.l0]
    rw [if_neg (by omega)]
  | d + 1, j, hj => by
    refine Ev.succ (fun k => ?_) (same_l l hl d (j + 1) (by omega))
    simp only [palaverlaw04_same.l0, upN j (by omega)]
    rw [if_pos (by omega), if_pos (by omega), if_pos (by omega), if_pos trivial]
theorem same_ev (l : List ByteArray) (hl : l.length ≤ 900) : Sha.Ev (fun k => palaverlaw04_same.f k l l) true := by
  unfold palaverlaw04_same.f
  exact ifs rfl (same_l l hl l.length 0 (by omega))
theorem path_no (l : List ByteArray) (a : Int) (h : merkle_leaves.f (l.length : Int) = some false ∨ a < 0 ∨ a ≥ (l.length : Int)) : Sha.Ev (fun k => merkle_Path.f k l a) (([] : List ByteArray), false) := by
  have no : Sha.Ev (fun k => merkle_Path.j0 k l a true) (([] : List ByteArray), false) := Ev.succ (G := fun _ => some (([] : List ByteArray), false)) (fun k => by simp only [merkle_Path.j0]; rw [if_pos trivial]) (Ev.pure _)
  unfold merkle_Path.f
  rcases leaves_pow l.length with ⟨q, hq, hl, hv, hm⟩ | ⟨hv, hm⟩
  · rw [hv]
    simp only [Option.bind_some]
    refine ifs trivial ?_
    have h2 : a < 0 ∨ a ≥ (l.length : Int) := by
      rcases h with h | h
      · rw [hv] at h
        cases h
      · exact h
    by_cases c : a < 0
    · exact ifs c no
    · rw [decide_eq_true (show a ≥ (l.length : Int) by omega)]
      exact ifn c no
  · rw [hv]
    simp only [Option.bind_some]
    exact ifn (by decide) no
theorem MerklePaths : palaverlaw04_MerklePaths.Stmt := by
  intro l0 a1 h0 h1
  obtain ⟨b, hb, hc⟩ := long_ev4 l0 (by omega)
  have no : Sha.Ev (fun k => palaverlaw04_MerklePaths.j0 k l0 a1 [] false true) true := Ev.succ (G := fun k => (palaverlaw04_awake.f k).bind fun t => some t) (fun k => by simp only [palaverlaw04_MerklePaths.j0]; rw [if_pos trivial, if_pos (by rfl), if_neg (by decide)]) awake4_then
  refine Ev.get (F := fun k => palaverlaw04_MerklePaths.f k l0 a1) ?_
  unfold palaverlaw04_MerklePaths.f
  refine Ev.bind hb ?_
  cases b with
  | true => exact ifs rfl awake4_then
  | false =>
    refine ifn (by decide) ?_
    rcases leaves_pow l0.length with ⟨h, hh, hl, hv, hm⟩ | ⟨hv, hm⟩
    · have hp := p2 h hh
      have hs : ∀ s ∈ l0, s.size ≤ 300 := hc rfl (by omega)
      by_cases c : a1 < 0
      · refine Ev.bind (path_no l0 a1 (.inr (.inl c))) ?_
        rw [hm]
        simp only [Option.bind_some]
        exact ifs trivial (ifs c no)
      · by_cases c2 : a1 ≥ (l0.length : Int)
        · refine Ev.bind (path_no l0 a1 (.inr (.inr c2))) ?_
          rw [hm, decide_eq_true c2]
          simp only [Option.bind_some]
          exact ifs trivial (ifn c no)
        · obtain ⟨i, rfl⟩ : ∃ i : Nat, a1 = (i : Int) := ⟨a1.toNat, by omega⟩
          have hi : i < 2 ^ h := by omega
          have hpl := Pt_len l0 i h 0
          refine Ev.bind (path_ev l0 h hh hl hs i hi hv) ?_
          rw [hm, decide_eq_false c2]
          simp only [Option.bind_some]
          refine ifs trivial (ifn c ?_)
          refine Ev.succ (G := fun k => (palaverref04_Path.f k l0 (i : Int)).bind fun t => (palaverlaw04_same.f k (Pt l0 i h 0) t).bind fun u => (if u = true then ((palaverlaw04_awake.f k).bind fun z => some z) else (some false))) (fun k => by simp only [palaverlaw04_MerklePaths.j0]; rw [if_neg (by decide), if_pos trivial]) (Ev.bind (rpath_ev l0 h hh hl hs i hi) (Ev.bind (same_ev (Pt l0 i h 0) (by omega)) (ifs rfl awake4_then)))
    · refine Ev.bind (path_no l0 a1 (.inl hv)) ?_
      rw [hm]
      simp only [Option.bind_some]
      exact ifn (by decide) no
end Go.Proofs.YtmnppogihmhdgaaDoor.Sha
namespace Go.Proofs.YtmnppogihmhdgaaDoor.Pure
open Go.Proofs.YtmnppogihmhdgaaDoor.PP
theorem MerklePaths : palaverlaw04_MerklePaths.Stmt := Sha.MerklePaths
end Go.Proofs.YtmnppogihmhdgaaDoor.Pure
