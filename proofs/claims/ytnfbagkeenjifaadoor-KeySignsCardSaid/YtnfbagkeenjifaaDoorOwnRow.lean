import Derived.Test.YtnfbagkeenjifaaDoorOwnWords
import Derived.ProofKit
import Derived.OpenShut
import Derived.ShutString
import Derived.ChangeOld
import Derived.Below
import Derived.SizedLaws
import Derived.SliceStrings
import Derived.Deep.Slices
import Derived.Deep.Fields
set_option linter.unusedVariables false
namespace Go.Proofs.YtnfbagkeenjifaaDoorW.PrintWords
open Go.ChangeShapes Go.WideShapes Go.ChangeAt Go.RowKit

section
variable {H : Type} {enc : TypeId × Value → H} {P : Program} {W : World} {base : Nat} {spare : Nat → Bool} {held : Bool} {t e : TypeId} {d : DataW H} {ps : List MemPlace}

theorem cell_int {fuel : Nat} {v : Value} {y : DataW H × List MemPlace} {k : IntKind} (ht : P.underlying t = some (.int k)) (h : DataW.trod enc P W base spare held fuel t [v] = some y) :
    ∃ n, v = .int k n ∧ (Lit.int k n).wf = true := by
  obtain ⟨n, h1, _, h3⟩ := DataW.trod_int ht h
  simp at h1
  exact ⟨n, h1, h3⟩
/-- A struct's cells: each with its own reading. -/
theorem row_fields {fs : Array Field} {fuel : Nat} {cs : List Value} {x : DataW H × List MemPlace} (hs : P.underlying t = some (.struct fs)) (hone : Go.Deep.oneCellFields P fs = true) (hC : P.cellsOf t = fs.size)
    (h : DataW.trod enc P W base spare held fuel t cs = some x) :
    cs.length = fs.size ∧ ∀ (j : Nat) (f : Field), fs[j]? = some f → ∃ (u : Value) (y : DataW H × List MemPlace) (n : Nat), cs[j]? = some u ∧ DataW.trod enc P W base spare held n f.type [u] = some y := by
  obtain ⟨ys, n, _, hx, hcl, hlen, hg⟩ := DataW.trod_struct hs h
  refine ⟨hcl.trans hC, fun j f hj => ?_⟩
  obtain ⟨ho, hk⟩ := Go.Deep.hone_of hone j f hj
  have hjl : j < fs.size := (Array.getElem?_eq_some_iff.1 hj).1
  have hys : ys[j]? = some (ys[j]'(by omega)) := List.getElem?_eq_getElem (by omega)
  have hu : cs[j]? = some (cs[j]'(by omega)) := List.getElem?_eq_getElem (by omega)
  refine ⟨_, ys[j]'(by omega), n, hu, ?_⟩
  have h1 := hg j f hj
  rw [ho, hk, hys] at h1
  have h2 : (cs.drop j).take 1 = [cs[j]'(by omega)] := by
    rw [List.drop_eq_getElem_cons (by omega)]
    rfl
  rw [h2] at h1
  exact h1
end
end Go.Proofs.YtnfbagkeenjifaaDoorW.PrintWords
