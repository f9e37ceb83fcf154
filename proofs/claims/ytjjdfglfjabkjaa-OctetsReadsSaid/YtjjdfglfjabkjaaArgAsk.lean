import Derived.Test.YtjjdfglfjabkjaaPPx0
import Derived.Test.YtjjdfglfjabkjaaOwnRow
/-! A slice of asks that came in. -/
namespace Go.Proofs.Ytjjdfglfjabkjaa.PP
open Go.ChangeShapes Go.WideShapes Go.ChangeAt Go.RowKit Go.Proofs.YtjjdfglfjabkjaaW.PrintWords
set_option linter.unusedVariables false
set_option linter.unusedSimpArgs false
section
variable {H : Type} {enc : TypeId × Value → H} {W : World} {base : Nat} {spare : Nat → Bool} {held : Bool} {d : DataW H} {ps : List MemPlace}
theorem arg_structs37 {a : Option Addr} {len cap t : Nat} (ht : Try.prog.underlying t = some (.slice 37))
    (h : DataW.Trod enc Try.prog W base spare held t (.slice a len cap) d ps) :
    ∃ l : List S37, l.length = len ∧ len ≤ cap ∧ Kd.C k37 W a l.length l := by
  obtain ⟨fuel, hf⟩ := h
  rcases Go.Deep.open_slice ht hf with ⟨hcs, _⟩ | ⟨x, l, c, m, n, D, Pl, hcs, _, hl, hm, hmm, hx, hi⟩
  · simp [Value.cells] at hcs
    obtain ⟨rfl, rfl, rfl⟩ := hcs
    exact ⟨[], rfl, Nat.le_refl _, Kd.C_nil _ _⟩
  · simp [Value.cells] at hcs
    obtain ⟨rfl, rfl, rfl⟩ := hcs
    have hlm : len ≤ m := by rw [hmm]; split <;> omega
    have hC : Try.prog.cellsOf 37 = 2 := by kernel_rfl
    rw [hC] at hi
    haveI : Inhabited S37 := ⟨z37⟩
    obtain ⟨V, hV⟩ := Go.Deep.choose_lt (n := m) (p := fun i (v : S37) => W.cell? (x.add (i * 2 + 0)) = some (.int .i64 v.f0) ∧ W.cell? (x.add (i * 2 + 1)) = some (.int .i64 v.f1)) (fun i him => by
      obtain ⟨cs, hc, htr⟩ := hi i him
      obtain ⟨hlen, hg⟩ := row_fields Try.underlying37 (by kernel_rfl) (by kernel_rfl) htr
      obtain ⟨u0, y0, n0, e0, t0⟩ := hg 0 _ rfl
      obtain ⟨u1, y1, n1, e1, t1⟩ := hg 1 _ rfl
      obtain ⟨v0, rfl, _⟩ := cell_int Try.underlying3 t0
      obtain ⟨v1, rfl, _⟩ := cell_int Try.underlying3 t1
      obtain ⟨_, _, hat⟩ := World.cells?_some hc
      refine ⟨⟨v0, v1⟩, ?_, ?_⟩
      · have := hat 0 (by omega)
        rw [Go.Deep.add_add, e0] at this
        exact this
      · have := hat 1 (by omega)
        rw [Go.Deep.add_add, e1] at this
        exact this)
    refine ⟨(List.range len).map V, by simp, hl, ?_⟩
    refine ⟨rfl, by simp only [List.length_map, List.length_range]; simp only [maxLen] at hm; omega, fun _ => ⟨x, rfl, fun j p hj => ?_⟩⟩
    obtain ⟨hjl, hp⟩ := List.getElem?_eq_some_iff.1 hj
    simp at hjl hp
    subst hp
    obtain ⟨e0, e1⟩ := hV j (by omega)
    refine ⟨_, rfl, k37_mk W (V j), fun i u hu => ?_⟩
    match i, hu with
    | 0, hu => simp at hu; subst hu; exact e0
    | 1, hu => simp at hu; subst hu; exact e1
end
end Go.Proofs.Ytjjdfglfjabkjaa.PP
