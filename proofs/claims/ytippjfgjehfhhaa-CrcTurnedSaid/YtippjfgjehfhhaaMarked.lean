import Derived.Test.YtippjfgjehfhhaaOwnWords
import Derived.Test.YtippjfgjehfhhaaWZeros
/-! Bytes that began as a string's: a row of the call's own whose block may bear a conversion's mark, behind its cells. -/
namespace Go.Proofs.YtippjfgjehfhhaaW.PrintWords
open Go.RowKit
set_option linter.unusedSimpArgs false
set_option linter.unusedVariables false

def OwnM (w : World) (base e : Nat) (v : Value) (xs : List Int) : Prop :=
  ∃ g cap cur fz, v = .slice (some ⟨g, 0, none⟩) xs.length cap ∧ base ≤ g ∧ w.heap[g]? = some (.cells cur e fz) ∧ (fz.2 = 0 ∨ cur.size ≤ fz.1) ∧ xs.length ≤ cap ∧ cap ≤ maxLen ∧ cur.size = cap ∧ cur.toList.take xs.length = encs (Value.int .u8) xs
theorem OwnM.drewN {w : World} {base e : Nat} {v : Value} {xs : List Int} (h : OwnM w base e v xs) (m : Nat) : OwnM (w.drewN m) base e v xs := h
theorem OwnM.below {w w1 : World} {base e : Nat} {v : Value} {xs : List Int} (h : OwnM w base e v xs) (hb : Below w.heap.size w w1) : OwnM w1 base e v xs := by
  obtain ⟨g, cap, cur, fz, h1, h2, h3, h4⟩ := h
  exact ⟨g, cap, cur, fz, h1, h2, by rw [hb.block g (Array.getElem?_eq_some_iff.1 h3).1]; exact h3, h4⟩
theorem OwnM.cells {w : World} {base e : Nat} {g n cap : Nat} {xs : List Int} (h : OwnM w base e (.slice (some ⟨g, 0, none⟩) n cap) xs) : ∀ j u, (encs (Value.int .u8) xs)[j]? = some u → w.cell? ((⟨g, 0, none⟩ : Addr).add j) = some u := by
  obtain ⟨g2, cap2, cur, fz, h1, h2, h3, h4, h5, h6, h7, h8⟩ := h
  injection h1 with h1 h1b h1c
  injection h1 with h1
  injection h1 with h1
  subst h1
  intro j u hu
  have hadd : (⟨g, 0, none⟩ : Addr).add j = ⟨g, j, none⟩ := by unfold Addr.add; split <;> simp_all
  rw [hadd, cell_of_row w g j cur e fz h3]
  rw [← h8, List.getElem?_take] at hu
  split at hu
  · simpa using hu
  · cases hu
/-- A string's bytes, fresh. -/
theorem ownM_conv (W : World) (base e : Nat) (s : ByteArray) (hbase : base ≤ W.heap.size) (hs : s.size ≤ 9223372036854775807) : OwnM (Lib.bytesWorld W e s) base e (.slice (some ⟨W.heap.size, 0, none⟩) s.size (grownCap W s.size 0 e)) (bytesOf s) := by
  have hge := grownCap_ge W s.size 0 e
  have hz : (Lib.bytesCells W e s).size = grownCap W s.size 0 e := by
    simp only [Lib.bytesCells, Array.size_append, Array.size_map, Array.size_replicate]
    have : s.data.size = s.size := rfl
    omega
  refine ⟨W.heap.size, grownCap W s.size 0 e, Lib.bytesCells W e s, _, by rw [bytesOf_length], hbase, Lib.bytesWorld_at_new W e s, .inr (Nat.le_refl _), by rw [bytesOf_length]; exact hge, grownCap_le_maxLen W s.size 0 e (by simpa [maxLen] using hs), hz, ?_⟩
  rw [bytesOf_length]
  simp only [Lib.bytesCells, Array.toList_append, Array.toList_map]
  rw [List.take_left' (by rw [List.length_map]; rfl)]
  simp [encs, bytesOf]
theorem OwnM.reads {w : World} {base e : Nat} {v : Value} {xs : List Int} (h : OwnM w base e v xs) : ∃ g cap, v = .slice (some ⟨g, 0, none⟩) xs.length cap ∧ base ≤ g ∧ (Kd.int .u8).C w (some ⟨g, 0, none⟩) xs.length xs := by
  obtain ⟨g, cap, cur, fz, rfl, h2, h3, h4, h5, h6, h7, h8⟩ := h
  refine ⟨g, cap, rfl, h2, ?_⟩
  refine Kd.C_of_reads (enc := Value.int .u8) (d := (0 : Int)) (h1 := fun _ => rfl) ?_
  refine ⟨rfl, by simp only [maxLen] at h6; omega, fun _ => ⟨⟨g, 0, none⟩, rfl, fun j hj => ?_⟩⟩
  have h9 := OwnM.cells ⟨g, cap, cur, fz, rfl, h2, h3, h4, h5, h6, h7, h8⟩ j (.int .u8 (xs.getD j 0)) (by simp [encs, List.getD_eq_getElem?_getD, hj])
  exact h9
section
variable {P : Program} {ops : Array Oper} {o : Oper} {rest : List Oper} {a : Act} {Q : Exit → Act → World → Prop}
/-- A string as bytes that will be written. -/
theorem convM_event {W : World} (hgd : o.guard = none) {N : Tmp} (_hd : o.dst = some N) (src dst e : TypeId) (x : Operand) (ho : o.op = .convert src dst x) (s : ByteArray) (hx : a.eval x = .string s) (base : Nat) (hbase : base ≤ W.heap.size)
    {u : TypeDesc} (hs : P.underlying src = some u) (hdt : P.underlying dst = some (.slice e)) (he : P.underlying e = some (.int .u8)) (hsz : s.size ≤ 9223372036854775807)
    (h : ∀ v w1, OwnM w1 base e v (bytesOf s) → Below W.heap.size W w1 → wpList P ops Q rest (a.put o.dst v) w1) : wpList P ops Q (o :: rest) a W := by
  have hr := Lib.run_convert_string_bytes (P := P) W src dst e s hs hdt he
  refine Kd.event_run (W := W) (w1 := Lib.bytesWorld W e s) (v := .slice (some ⟨W.heap.size, 0, none⟩) s.size (grownCap W s.size 0 e)) hgd (by simp [execOp, ho, hx, hr]) ?_
  exact h _ _ (ownM_conv W base e s hbase hsz) (bytes_below (Below.refl _ _) (Nat.le_refl _) e s)
end
section
variable {P : Program} {ops : Array Oper} {o : Oper} {rest : List Oper} {a : Act} {Q : Exit → Act → World → Prop}
end
theorem OwnM.set {w : World} {base e : Nat} {g n cap : Nat} {xs : List Int} (h : OwnM w base e (.slice (some ⟨g, 0, none⟩) n cap) xs) (j : Nat) (_hj : j < xs.length) (c : Int) : OwnM (w.setCell ⟨g, j, none⟩ (.int .u8 c)) base e (.slice (some ⟨g, 0, none⟩) n cap) (xs.set j c) := by
  obtain ⟨g2, cap2, cur, fz, h1, h2, h3, h4, h5, h6, h7, h8⟩ := h
  injection h1 with h1 h1b h1c
  injection h1 with h1
  injection h1 with h1
  subst h1 h1c
  refine ⟨g, cap, cur.setIfInBounds j (.int .u8 c), fz, by rw [List.length_set]; rw [h1b], h2, ?_, by simpa using h4, by rw [List.length_set]; exact h5, h6, by simpa using h7, ?_⟩
  · rw [setCell_eq_setRow w g j cur e fz (.int .u8 c) h3]
    exact setRow_heap w g cur _ e fz h3
  · rw [Array.toList_setIfInBounds, List.length_set, List.take_set, h8]
    simp only [encs, List.map_set]
theorem OwnM.reads_at {w : World} {base e : Nat} {g n cap : Nat} {xs : List Int} (h : OwnM w base e (.slice (some ⟨g, 0, none⟩) n cap) xs) : (Kd.int .u8).C w (some ⟨g, 0, none⟩) xs.length xs := by
  obtain ⟨g2, cap2, e1, h2, h3⟩ := h.reads
  injection e1 with e1
  injection e1 with e1
  injection e1 with e1
  subst e1
  exact h3
theorem OwnM.one {w : World} {base e : Nat} {g n cap : Nat} {xs : List Int} (h : OwnM w base e (.slice (some ⟨g, 0, none⟩) n cap) xs) (j : Nat) (hj : j < xs.length) : w.cell? ⟨g, j, none⟩ = some (.int .u8 (rd xs (j : Int))) ∧ w.frozen? ⟨g, j, none⟩ = false := by
  constructor
  · have h1 := OwnM.cells h j (.int .u8 xs[j]) (by simp [encs, hj])
    have hadd : (⟨g, 0, none⟩ : Addr).add j = ⟨g, j, none⟩ := by unfold Addr.add; split <;> simp_all
    rw [hadd] at h1
    rw [h1]
    simp [rd, List.getD, hj]
  · obtain ⟨g2, cap2, cur, fz, h1, h2, h3, h4, h5, h6, h7, h8⟩ := h
    injection h1 with h1 h1b h1c
    injection h1 with h1
    injection h1 with h1
    subst h1
    obtain ⟨lo, hi⟩ := fz
    simp only [World.frozen?, h3, Bool.and_eq_false_iff, decide_eq_false_iff_not]
    simp only at h4
    omega
end Go.Proofs.YtippjfgjehfhhaaW.PrintWords
