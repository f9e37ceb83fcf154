import Derived.Test.YtdodghifojkclaaGreatDoorOwnWords
import Derived.ProofKit
import Derived.OpenShut
import Derived.ShutString
import Derived.ChangeOld
import Derived.Below
import Derived.SizedLaws
import Derived.SliceStrings
import Derived.Deep.Slices
import Derived.Deep.Fields
set_option linter.unusedVariables false
namespace Go.Proofs.YtdodghifojkclaaGreatDoorW.PrintWords
open Go.ChangeShapes Go.WideShapes Go.ChangeAt Go.RowKit

section
variable {H : Type} {enc : TypeId × Value → H} {P : Program} {W : World} {base : Nat} {spare : Nat → Bool} {held : Bool} {t e : TypeId} {d : DataW H} {ps : List MemPlace}

theorem arr5 {n : Nat} {cs : Array Value} (h : cs.size = n) (hn : n = 5 := by rfl) : ∃ a b c d e, cs = #[a, b, c, d, e] := by
  subst hn
  obtain ⟨l⟩ := cs
  match l, h with
  | [a, b, c, d, e], _ => exact ⟨a, b, c, d, e, rfl⟩
/-- A field that reads as a slice has a slice's form. -/
theorem cell_slice {fuel : Nat} {v : Value} {y : DataW H × List MemPlace} (ht : P.underlying t = some (.slice e)) (h : DataW.trod enc P W base spare held fuel t [v] = some y) :
    ∃ a n c, v = .slice a n c ∧ DataW.Trod enc P W base spare held t (.slice a n c) y.1 y.2 := by
  rcases DataW.trod_slice ht h with ⟨hcs, _⟩ | ⟨a, len, cap, _, _, _, _, hcs, _⟩
  · simp at hcs
    subst hcs
    exact ⟨_, _, _, rfl, fuel, by simpa [Value.cells] using h⟩
  · simp at hcs
    subst hcs
    exact ⟨_, _, _, rfl, fuel, by simpa [Value.cells] using h⟩
theorem cell_int {fuel : Nat} {v : Value} {y : DataW H × List MemPlace} {k : IntKind} (ht : P.underlying t = some (.int k)) (h : DataW.trod enc P W base spare held fuel t [v] = some y) :
    ∃ n, v = .int k n ∧ (Lit.int k n).wf = true := by
  obtain ⟨n, h1, _, h3⟩ := DataW.trod_int ht h
  simp at h1
  exact ⟨n, h1, h3⟩
theorem cell_string {fuel : Nat} {v : Value} {y : DataW H × List MemPlace} (ht : P.underlying t = some .string) (h : DataW.trod enc P W base spare held fuel t [v] = some y) :
    ∃ s, v = .string s ∧ y.1 = .lit (.string s.data.toList) := by
  obtain ⟨s, h1, h2, _⟩ := DataW.trod_string ht h
  simp at h1
  exact ⟨s, h1, by rw [h2]⟩

/-- A slice of strings that came in. -/
theorem arg_strings {a : Option Addr} {len cap : Nat} (ht : P.underlying t = some (.slice e)) (he : P.underlying e = some .string) (hc : P.cellsOf e = 1)
    (h : DataW.Trod enc P W base spare held t (.slice a len cap) d ps) :
    ∃ l : List ByteArray, l.length = len ∧ len ≤ cap ∧ Kd.string.C W a l.length l := by
  obtain ⟨fuel, hf⟩ := h
  rcases open_strings ht he hc hf with ⟨hcs, _⟩ | ⟨x, l, c, ss, hcs, _, hl, hm, hz, _, hcell, _⟩
  · simp [Value.cells] at hcs
    obtain ⟨rfl, rfl, rfl⟩ := hcs
    exact ⟨[], rfl, Nat.le_refl _, Kd.C_nil _ _⟩
  · simp [Value.cells] at hcs
    obtain ⟨rfl, rfl, rfl⟩ := hcs
    have hlen : len ≤ ss.length := by rw [hz]; split <;> omega
    have h1 : (ss.take len).length = len := by rw [List.length_take]; omega
    refine ⟨ss.take len, h1, hl, ?_⟩
    rw [h1]
    refine Kd.C_of_reads (enc := Value.string) (d := ByteArray.empty) (h1 := fun _ => rfl) ⟨h1, by simp only [maxLen] at hm; omega, fun _ => ⟨x, rfl, fun j hj => ?_⟩⟩
    rw [hcell j (by omega)]
    simp [List.getD_eq_getElem?_getD, hj]

/-- A struct that came in: its fields' values, each with its own reading. -/
theorem arg_fields {r : Reach} {b0 : Nat} {fs : Array Field} {v : Value} (hs : P.underlying t = some (.struct fs)) (hone : Go.Deep.oneCellFields P fs = true) (hC : P.cellsOf t = fs.size)
    (hv : Value.okWide P W r b0 t v) (h : DataW.Trod enc P W base spare held t v d ps) :
    ∃ (cs : Array Value) (ys : List (DataW H × List MemPlace)), v = .agg cs ∧ cs.size = fs.size ∧ d = .agg (ys.map (·.1)) ∧ ys.length = fs.size ∧
      ∀ (j : Nat) (f : Field), fs[j]? = some f → ∃ (u : Value) (y : DataW H × List MemPlace) (n : Nat), cs[j]? = some u ∧ ys[j]? = some y ∧ DataW.trod enc P W base spare held n f.type [u] = some y := by
  obtain ⟨cs, rfl, hsz⟩ := okWide_struct hs hv
  obtain ⟨fuel, hf⟩ := h
  obtain ⟨ys, n, _, hx, hcl, hlen, hg⟩ := DataW.trod_struct hs hf
  simp only [Prod.mk.injEq] at hx
  have hcs : cs.size = fs.size := hsz.trans hC
  refine ⟨cs, ys, rfl, hcs, hx.1, hlen, fun j f hj => ?_⟩
  obtain ⟨ho, hk⟩ := Go.Deep.hone_of hone j f hj
  have hjl : j < fs.size := (Array.getElem?_eq_some_iff.1 hj).1
  have hys : ys[j]? = some (ys[j]'(by omega)) := List.getElem?_eq_getElem (by omega)
  have hu : cs[j]? = some (cs[j]'(by omega)) := Array.getElem?_eq_getElem (by omega)
  refine ⟨_, _, n, hu, hys, ?_⟩
  have h1 := hg j f hj
  rw [ho, hk, hys] at h1
  have h2 : (((Value.agg cs).cells.toList.drop j).take 1) = [cs[j]'(by omega)] := by
    show (cs.toList.drop j).take 1 = _
    rw [List.drop_eq_getElem_cons (by simpa using (by omega : j < cs.size))]
    simp
  rw [h2] at h1
  exact h1
end
end Go.Proofs.YtdodghifojkclaaGreatDoorW.PrintWords
