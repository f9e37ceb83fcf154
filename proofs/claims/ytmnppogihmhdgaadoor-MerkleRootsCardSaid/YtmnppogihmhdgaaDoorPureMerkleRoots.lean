/-
  The root of leaves is the document's, or they are none.
  Conditions: none.
-/
import Derived.Test.YtmnppogihmhdgaaDoorStMerkleRoots
import Derived.Test.YtmnppogihmhdgaaDoorMrk4
namespace Go.Proofs.YtmnppogihmhdgaaDoor.Sha
open Go.RowKit Go.Proofs.YtmnppogihmhdgaaDoor.PP Go.Proofs.YtmnppogihmhdgaaDoorW.PrintWords Go.Proofs.YtmnppogihmhdgaaDoorW.PrintLast Go.Proofs.YtmnppogihmhdgaaDoorW.PrintMore
set_option linter.unusedSimpArgs false
set_option linter.unusedVariables false

theorem MerkleRoots : palaverlaw04_MerkleRoots.Stmt := by
  intro l0 h0
  obtain ⟨b, hb, hc⟩ := long_ev4 l0 (by omega)
  refine Ev.get (F := fun k => palaverlaw04_MerkleRoots.f k l0) ?_
  unfold palaverlaw04_MerkleRoots.f
  refine Ev.bind hb ?_
  cases b with
  | true => exact ifs rfl awake4_then
  | false =>
    refine ifn (by decide) ?_
    rcases leaves_pow l0.length with ⟨h, hh, hl, hv, hm⟩ | ⟨hv, hm⟩
    · have hp := p2 h hh
      have hs : ∀ s ∈ l0, s.size ≤ 300 := hc rfl (by omega)
      refine Ev.bind (Root_yes l0 h hh hl hs hv) ?_
      rw [hm]
      simp only [Option.bind_some]
      exact ifs trivial (Ev.bind (rroot_ev l0 h hh hl hs) (ifs rfl awake4_then))
    · refine Ev.bind (Root_no l0 hv) ?_
      rw [hm]
      simp only [Option.bind_some]
      exact ifn (by decide) (ifs (by rw [ByteArray.toList_eq]) (ifn (by decide) awake4_then))
end Go.Proofs.YtmnppogihmhdgaaDoor.Sha
namespace Go.Proofs.YtmnppogihmhdgaaDoor.Pure
open Go.Proofs.YtmnppogihmhdgaaDoor.PP
theorem MerkleRoots : palaverlaw04_MerkleRoots.Stmt := Sha.MerkleRoots
end Go.Proofs.YtmnppogihmhdgaaDoor.Pure
