/-
  Each leaf's path leads from it to the root.
  Conditions: none.
-/
import Derived.Test.YtmnppogihmhdgaaDoorStMerkleBack
import Derived.Test.YtmnppogihmhdgaaDoorMrk3
namespace Go.Proofs.YtmnppogihmhdgaaDoor.Sha
open Go.RowKit Go.Proofs.YtmnppogihmhdgaaDoor.PP Go.Proofs.YtmnppogihmhdgaaDoorW.PrintWords Go.Proofs.YtmnppogihmhdgaaDoorW.PrintLast Go.Proofs.YtmnppogihmhdgaaDoorW.PrintMore
set_option linter.unusedSimpArgs false
set_option linter.unusedVariables false

theorem MerkleBack : palaverlaw04_MerkleBack.Stmt := by
  intro l0 a1 h0 h1
  obtain ⟨b, hb, hc⟩ := long_ev4 l0 (by omega)
  refine Ev.get (F := fun k => palaverlaw04_MerkleBack.f k l0 a1) ?_
  unfold palaverlaw04_MerkleBack.f
  refine Ev.bind hb ?_
  cases b with
  | true => exact ifs rfl awake4_then
  | false =>
    refine ifn (by decide) ?_
    rcases leaves_pow l0.length with ⟨h, hh, hl, hv, hm⟩ | ⟨hv, hm⟩
    · have hp := p2 h hh
      have hs : ∀ s ∈ l0, s.size ≤ 300 := hc rfl (by omega)
      obtain ⟨⟨i, hi, e⟩, hz⟩ := pick a1 l0.length (by omega) (by omega)
      refine Ev.bind (Root_yes l0 h hh hl hs hv) (ifs rfl (ifn hz ?_))
      rw [e]
      have hi2 : i < 2 ^ h := by omega
      refine Ev.bind (path_ev l0 h hh hl hs i hi2 hv) (ifs (by omega) (ifs (by omega) ?_))
      have hpl := Pt_len l0 i h 0
      have hf : fold (rdOf ByteArray.empty l0 (i : Int)) (i : Int) (Pt l0 i h 0) = (Rt h l0, true) := by
        have hg : (i : Int) < 2 ^ (Pt l0 i h 0).length := by
          rw [hpl]
          exact_mod_cast hi2
        unfold fold
        rw [if_pos ⟨by omega, by omega, hg⟩]
        have := fold_path l0 h hl i hi2 h 0 (by omega)
        rw [Nat.pow_zero, Nat.div_one, Bk_one l0 i hi, ← at_get l0 i hi] at this
        rw [this]
      have hr : (rdOf ByteArray.empty l0 (i : Int)).size ≤ 300 := by
        rw [at_get l0 i hi]
        exact hs _ (List.getElem_mem hi)
      have := fold_ev (rdOf ByteArray.empty l0 (i : Int)) hr (i : Int) (Pt l0 i h 0) (fun _ => Pt_mem l0 h hl hs i hi2 h 0 (by omega))
      rw [hf] at this
      exact Ev.bind this (ifs rfl (ifs rfl (ifs rfl awake4_then)))
    · refine Ev.bind (Root_no l0 hv) (ifn (by decide) ?_)
      rw [hm]
      simp only [Option.bind_some]
      exact ifn (by decide) awake4_then
end Go.Proofs.YtmnppogihmhdgaaDoor.Sha
namespace Go.Proofs.YtmnppogihmhdgaaDoor.Pure
open Go.Proofs.YtmnppogihmhdgaaDoor.PP
theorem MerkleBack : palaverlaw04_MerkleBack.Stmt := Sha.MerkleBack
end Go.Proofs.YtmnppogihmhdgaaDoor.Pure
