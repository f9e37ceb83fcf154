import Derived.Test.YtdodghifojkclaaGreatDoorOwnWords
import Derived.Test.YtdodghifojkclaaGreatDoorWZeros
/-! Bytes that began as a string's: a row of the call's own whose block may bear a conversion's mark, behind its cells. -/
namespace Go.Proofs.YtdodghifojkclaaGreatDoorW.PrintWords
open Go.RowKit
set_option linter.unusedSimpArgs false
set_option linter.unusedVariables false

def OwnM (w : World) (base e : Nat) (v : Value) (xs : List Int) : Prop :=
  ∃ g cap cur fz, v = .slice (some ⟨g, 0, none⟩) xs.length cap ∧ base ≤ g ∧ w.heap[g]? = some (.cells cur e fz) ∧ (fz.2 = 0 ∨ cur.size ≤ fz.1) ∧ xs.length ≤ cap ∧ cap ≤ maxLen ∧ cur.size = cap ∧ cur.toList.take xs.length = encs (Value.int .u8) xs
theorem OwnM.drewN {w : World} {base e : Nat} {v : Value} {xs : List Int} (h : OwnM w base e v xs) (m : Nat) : OwnM (w.drewN m) base e v xs := h
theorem OwnM.below {w w1 : World} {base e : Nat} {v : Value} {xs : List Int} (h : OwnM w base e v xs) (hb : Below w.heap.size w w1) : OwnM w1 base e v xs := by
  obtain ⟨g, cap, cur, fz, h1, h2, h3, h4⟩ := h
  exact ⟨g, cap, cur, fz, h1, h2, by rw [hb.block g (Array.getElem?_eq_some_iff.1 h3).1]; exact h3, h4⟩
/-- Cells written into a block whose mark lies behind them. -/
theorem run_storeCells_atM (P : Program) (g o : Nat) (t : TypeId) (fz : Nat × Nat) : ∀ (vs : List Value) (i : Nat) (cur : Array Value) (w : World), w.heap[g]? = some (.cells cur t fz) → (fz.2 = 0 ∨ cur.size ≤ fz.1) → o + i + vs.length ≤ cur.size → (∀ v ∈ vs, v.oneCell' = true) →
    (storeCells ⟨g, o, none⟩ vs i).run P w = .ok () (w.setRow g (cur.toList.take (o + i) ++ vs ++ cur.toList.drop (o + i + vs.length)).toArray)
  | [], i, cur, w, hg, _, _, _ => by
    simp only [storeCells, List.append_nil, List.length_nil, Nat.add_zero, List.take_append_drop, Array.toArray_toList]
    rw [setRow_self w g cur t fz hg]
    rfl
  | v :: rest, i, cur, w, hg, hfz, hl, h1 => by
    have hi : o + i < cur.size := by simp at hl; omega
    have hadd : (⟨g, o, none⟩ : Addr).add i = ⟨g, o + i, none⟩ := by unfold Addr.add; split <;> simp_all
    have hcell : w.cell? ⟨g, o + i, none⟩ = some cur[o + i] := by simp [World.cell?, hg, hi]
    have hfro : w.frozen? ⟨g, o + i, none⟩ = false := by
      obtain ⟨lo, hi'⟩ := fz
      simp only [World.frozen?, hg, Bool.and_eq_false_iff, decide_eq_false_iff_not]
      simp only at hfz
      omega
    have hst : (store ((⟨g, o, none⟩ : Addr).add i) v).run P w = .ok () (w.setRow g (cur.setIfInBounds (o + i) v)) := by
      rw [hadd, run_store P w _ v _ (h1 v (by simp)), hcell]
      simp [hfro, setCell_eq_setRow w g (o + i) cur t fz v hg]
    have ih := run_storeCells_atM P g o t fz rest (i + 1) (cur.setIfInBounds (o + i) v) (w.setRow g (cur.setIfInBounds (o + i) v)) (setRow_heap w g cur _ t _ hg) (by simpa using hfz) (by simp at hl ⊢; omega) (fun x hx => h1 x (by simp [hx]))
    simp only [storeCells, Sem.run_bind, hst, Result.andThen_ok, ih, setRow_setRow]
    congr 3
    have hlen : cur.toList.length = cur.size := Array.length_toList
    rw [Array.toList_setIfInBounds]
    apply List.ext_getElem?
    intro j
    simp only [List.getElem?_append, List.getElem?_take, List.getElem?_set, List.getElem?_drop, List.length_take, List.length_set, List.length_append, hlen, List.length_cons]
    rcases Nat.lt_trichotomy j (o + i) with hj | hj | hj
    · rw [if_pos (by omega), if_pos (by omega), if_pos (by omega), if_neg (by omega), if_pos (by omega), if_pos (by omega), if_pos (by omega)]
    · subst hj
      rw [if_pos (by omega), if_pos (by omega), if_pos (by omega), if_pos rfl, if_pos (by omega), if_pos (by omega), if_neg (by omega), show o + i - min (o + i) cur.size = 0 by omega]
      rfl
    · by_cases h2 : j < o + i + 1 + rest.length
      · rw [if_pos (by omega), if_neg (by omega), if_pos (by omega), if_neg (by omega), show j - min (o + i) cur.size = (j - min (o + i + 1) cur.size) + 1 by omega, List.getElem?_cons_succ]
        rfl
      · rw [if_neg (by omega), if_neg (by omega), if_neg (by omega)]
        congr 1
        omega
theorem OwnM.cells {w : World} {base e : Nat} {g n cap : Nat} {xs : List Int} (h : OwnM w base e (.slice (some ⟨g, 0, none⟩) n cap) xs) : ∀ j u, (encs (Value.int .u8) xs)[j]? = some u → w.cell? ((⟨g, 0, none⟩ : Addr).add j) = some u := by
  obtain ⟨g2, cap2, cur, fz, h1, h2, h3, h4, h5, h6, h7, h8⟩ := h
  injection h1 with h1 h1b h1c
  injection h1 with h1
  injection h1 with h1
  subst h1
  intro j u hu
  have hadd : (⟨g, 0, none⟩ : Addr).add j = ⟨g, j, none⟩ := by unfold Addr.add; split <;> simp_all
  rw [hadd, cell_of_row w g j cur e fz h3]
  rw [← h8, List.getElem?_take] at hu
  split at hu
  · simpa using hu
  · cases hu
/-- A new row of so many cells. -/
theorem ownM_new {w : World} {base e : Nat} (xs : List Int) (cap : Nat) (rest : Array Value) (hbase : base ≤ w.heap.size) (hc : cap ≤ maxLen) (hr : xs.length + rest.size = cap) :
    OwnM (w.alloc (.cells ((encs (Value.int .u8) xs).toArray ++ rest) e)) base e (.slice (some ⟨w.heap.size, 0, none⟩) xs.length cap) xs := by
  refine ⟨w.heap.size, cap, _, (0, 0), rfl, hbase, heap_alloc_new w _, .inl rfl, by omega, hc, ?_, ?_⟩
  · simp only [Array.size_append, List.size_toArray, encs_length]; exact hr
  · simp only [Array.toList_append]
    rw [List.take_left' (by rw [encs_length])]
/-- Bytes appended. -/
theorem run_append_M {P : Program} {w0 w : World} {base : Nat} (t ty e : TypeId) (i : TypeInfo) (ht : P.underlying t = some (.slice e)) (hi : P.info? e = some i) (hz : i.zero = some (.int .u8 0)) (hs : i.size = 1) (hbt : i.bytes = 1)
    {v : Value} {xs : List Int} (h : OwnM w base e v xs) (hbase : base ≤ w.heap.size) (HB : Below base w0 w) (a : Addr) (c : Nat) (ys : List Int) (hys : ∀ j u, (encs (Value.int .u8) ys)[j]? = some u → w.cell? (a.add j) = some u) (hlim : xs.length + ys.length ≤ 140737488355328) :
    ∃ v' w', (Builtin.append_ #[t, t] ty #[v, .slice (some a) ys.length c]).run P w = .ok v' w' ∧ OwnM w' base e v' (xs ++ ys) ∧ Below base w0 w' := by
  have h0 := h
  obtain ⟨g, cap, cur, fz, rfl, h2, h3, h4, h5, h6, h7, h8⟩ := h
  by_cases hroom : xs.length + ys.length ≤ cap
  · have hf := run_firstCells_some (P := P) w i.size ys.length a ys.length c (encs (Value.int .u8) ys) (by rw [encs_length, hs, Nat.mul_one]) hys
    have hst := run_storeCells_atM P g xs.length e fz (encs (Value.int .u8) ys) 0 cur w h3 h4 (by rw [encs_length]; omega) (by intro u hu; simp only [encs, List.mem_map] at hu; obtain ⟨q, _, rfl⟩ := hu; rfl)
    simp only [Nat.add_zero] at hst
    refine ⟨.slice (some ⟨g, 0, none⟩) (xs.length + ys.length) cap, w.setRow g (cur.toList.take xs.length ++ encs (Value.int .u8) ys ++ cur.toList.drop (xs.length + (encs (Value.int .u8) ys).length)).toArray, ?_, ?_, below_setRow HB h2 _⟩
    · rw [hs] at hf
      simp [Builtin.append_, run_underlying ht, sizeOf, typeInfo, hi, hs, Builtin.lenOf, hroom, hf, Addr.add_lit, hst]
    · refine ⟨g, cap, _, fz, by rw [List.length_append], h2, setRow_heap w g cur _ e fz h3, ?_, by rw [List.length_append]; exact hroom, h6, ?_, ?_⟩
      · simpa [encs_length] using (by omega : fz.2 = 0 ∨ min xs.length cur.size + (ys.length + (cur.size - (xs.length + ys.length))) ≤ fz.1)
      · simp [encs_length]; omega
      · simp only [encs_length]
        rw [h8, ← encs_append, List.take_left' (by rw [encs_length])]
  · have hge := grownCap_ge w (xs.length + ys.length) cap e
    have hm : xs.length + ys.length ≤ maxLen := by simp only [maxLen]; omega
    have hr := run_append_grow (P := P) (w := w) t ty e i (.int .u8 0) ht hi hz ⟨g, 0, none⟩ xs.length cap (encs (Value.int .u8) xs) (by rw [encs_length, hs, Nat.mul_one]) (OwnM.cells h0) a ys.length c (encs (Value.int .u8) ys) (by rw [encs_length, hs, Nat.mul_one]) hys (by omega) (by omega)
      (growslice_fits (by omega) (by rw [hbt]; omega))
    refine ⟨_, _, hr, ?_, ?_⟩
    · have h9 := ownM_new (w := w.drew) (base := base) (e := e) (xs ++ ys) (grownCap w (xs.length + ys.length) cap e) (Builtin.zeroCells (Value.int .u8 0).cells (grownCap w (xs.length + ys.length) cap e - (xs.length + ys.length))) hbase (grownCap_le_maxLen w _ cap e hm) (by rw [List.length_append, size_zeroCells]; simp [Value.cells]; omega)
      rw [encs_append, List.length_append] at h9
      rw [show (encs (Value.int .u8) xs).toArray ++ (encs (Value.int .u8) ys).toArray = (encs (Value.int .u8) xs ++ encs (Value.int .u8) ys).toArray by simp]
      exact h9
    · exact (below_drew1 HB).alloc (by simpa using hbase) _
/-- Zeros appended. -/
theorem run_append_zeros_M {P : Program} {w0 w : World} {base : Nat} (t ti ty e : TypeId) (i : TypeInfo) (ht : P.underlying t = some (.slice e)) {k : IntKind} (hti : P.underlying ti = some (.int k)) (hi : P.info? e = some i) (hz : i.zero = some (.int .u8 0)) (hs : i.size = 1) (hbt : i.bytes = 1)
    {v : Value} {xs : List Int} (h : OwnM w base e v xs) (hbase : base ≤ w.heap.size) (HB : Below base w0 w) (kx : IntKind) (m : Nat) (hlim : xs.length + m ≤ 140737488355328) :
    ∃ v' w', (Builtin.append_ #[t, ti] ty #[v, .int kx m]).run P w = .ok v' w' ∧ OwnM w' base e v' (xs ++ List.replicate m 0) ∧ Below base w0 w' := by
  have h0 := h
  obtain ⟨g, cap, cur, fz, rfl, h2, h3, h4, h5, h6, h7, h8⟩ := h
  have hw : IntKind.i64.wrap (m : Int) = m := by rw [IntKind.wrap_i64]; omega
  have hneg : ¬ ((m : Int) < 0) := by omega
  have hbig : ¬ (281474976710656 < (m : Int)) := by omega
  have hna : Builtin.zeroCells (Value.int .u8 0).cells m = (encs (Value.int .u8) (List.replicate m 0)).toArray := by
    apply Array.ext
    · rw [size_zeroCells]; simp [Value.cells, encs]
    · intro j h1 h2
      simp [Builtin.zeroCells, Value.cells, encs, Nat.mod_one]
  have hel : (encs (Value.int .u8) (List.replicate m 0)).length = m := by rw [encs_length, List.length_replicate]
  by_cases hroom : xs.length + m ≤ cap
  · have hst := run_storeCells_atM P g xs.length e fz (encs (Value.int .u8) (List.replicate m 0)) 0 cur w h3 h4 (by rw [hel]; omega) (by intro u hu; simp only [encs, List.mem_map] at hu; obtain ⟨q, _, rfl⟩ := hu; rfl)
    simp only [Nat.add_zero] at hst
    refine ⟨.slice (some ⟨g, 0, none⟩) (xs.length + m) cap, w.setRow g (cur.toList.take xs.length ++ encs (Value.int .u8) (List.replicate m 0) ++ cur.toList.drop (xs.length + (encs (Value.int .u8) (List.replicate m 0)).length)).toArray, ?_, ?_, below_setRow HB h2 _⟩
    · by_cases hm : m = 0
      · subst hm
        simp [encs] at hst
        simp [Builtin.append_, run_underlying ht, run_underlying hti, sizeOf, typeInfo, zeroValue, hi, hz, hs, hbt, asInt, asIntOf, IntKind.wrap_i64, Builtin.lenOf, h5, Addr.add_lit, encs, storeCells]
        rw [setRow_self w g cur e fz h3]
      · simp [Builtin.append_, run_underlying ht, run_underlying hti, sizeOf, typeInfo, zeroValue, hi, hz, hs, hbt, asInt, asIntOf, hw, hneg, hbig, Builtin.lenOf, hroom, hm, hna, Addr.add_lit, hst]
    · refine ⟨g, cap, _, fz, by rw [List.length_append, List.length_replicate], h2, setRow_heap w g cur _ e fz h3, ?_, by rw [List.length_append, List.length_replicate]; exact hroom, h6, ?_, ?_⟩
      · simpa [encs_length] using (by omega : fz.2 = 0 ∨ min xs.length cur.size + (m + (cur.size - (xs.length + m))) ≤ fz.1)
      · simp [encs_length]; omega
      · rw [h8, ← encs_append, List.take_left' (by rw [encs_length])]
  · have hge := grownCap_ge w (xs.length + m) cap e
    have hmx : xs.length + m ≤ maxLen := by simp only [maxLen]; omega
    have hfo := run_firstCells_some (P := P) w.drew 1 xs.length ⟨g, 0, none⟩ xs.length cap (encs (Value.int .u8) xs) (by rw [encs_length, Nat.mul_one]) (by simpa using OwnM.cells h0)
    have hm : m ≠ 0 := by omega
    have h63 : ¬ (9223372036854775807 < ((xs.length : Int) + (m : Int))) := by omega
    have hfit := growslice_fits (need := xs.length + m) (old := cap) (bytes := 1) (by omega) (by omega)
    have h48 : ¬ (281474976710656 < Builtin.nextslicecap (xs.length + m) cap) := by omega
    refine ⟨.slice (some ⟨w.heap.size, 0, none⟩) (xs.length + m) (grownCap w (xs.length + m) cap e), w.drew.alloc (.cells ((encs (Value.int .u8) xs).toArray ++ (encs (Value.int .u8) (List.replicate m 0)).toArray ++ Builtin.zeroCells (Value.int .u8 0).cells (grownCap w (xs.length + m) cap e - (xs.length + m))) e), ?_, ?_, ?_⟩
    · simp [Builtin.append_, run_underlying ht, run_underlying hti, sizeOf, typeInfo, zeroValue, hi, hz, hs, hbt, asInt, asIntOf, hw, hneg, hbig, Builtin.lenOf, hroom, hm, hna, h63, h48, Question.forced, hfo, newRow, grownCap]
      congr 2
      apply Array.ext'
      simp [List.append_assoc]
    · have h9 := ownM_new (w := w.drew) (base := base) (e := e) (xs ++ List.replicate m 0) (grownCap w (xs.length + m) cap e) (Builtin.zeroCells (Value.int .u8 0).cells (grownCap w (xs.length + m) cap e - (xs.length + m))) hbase (grownCap_le_maxLen w _ cap e hmx) (by rw [List.length_append, List.length_replicate, size_zeroCells]; simp [Value.cells]; omega)
      rw [encs_append, List.length_append, List.length_replicate] at h9
      rw [show (encs (Value.int .u8) xs).toArray ++ (encs (Value.int .u8) (List.replicate m 0)).toArray = (encs (Value.int .u8) xs ++ encs (Value.int .u8) (List.replicate m 0)).toArray by simp]
      exact h9
    · exact (below_drew1 HB).alloc (by simpa using hbase) _
/-- A string's bytes, fresh. -/
theorem ownM_conv (W : World) (base e : Nat) (s : ByteArray) (hbase : base ≤ W.heap.size) (hs : s.size ≤ 9223372036854775807) : OwnM (Lib.bytesWorld W e s) base e (.slice (some ⟨W.heap.size, 0, none⟩) s.size (grownCap W s.size 0 e)) (bytesOf s) := by
  have hge := grownCap_ge W s.size 0 e
  have hz : (Lib.bytesCells W e s).size = grownCap W s.size 0 e := by
    simp only [Lib.bytesCells, Array.size_append, Array.size_map, Array.size_replicate]
    have : s.data.size = s.size := rfl
    omega
  refine ⟨W.heap.size, grownCap W s.size 0 e, Lib.bytesCells W e s, _, by rw [bytesOf_length], hbase, Lib.bytesWorld_at_new W e s, .inr (Nat.le_refl _), by rw [bytesOf_length]; exact hge, grownCap_le_maxLen W s.size 0 e (by simpa [maxLen] using hs), hz, ?_⟩
  rw [bytesOf_length]
  simp only [Lib.bytesCells, Array.toList_append, Array.toList_map]
  rw [List.take_left' (by rw [List.length_map]; rfl)]
  simp [encs, bytesOf]
theorem OwnM.reads {w : World} {base e : Nat} {v : Value} {xs : List Int} (h : OwnM w base e v xs) : ∃ g cap, v = .slice (some ⟨g, 0, none⟩) xs.length cap ∧ base ≤ g ∧ (Kd.int .u8).C w (some ⟨g, 0, none⟩) xs.length xs := by
  obtain ⟨g, cap, cur, fz, rfl, h2, h3, h4, h5, h6, h7, h8⟩ := h
  refine ⟨g, cap, rfl, h2, ?_⟩
  refine Kd.C_of_reads (enc := Value.int .u8) (d := (0 : Int)) (h1 := fun _ => rfl) ?_
  refine ⟨rfl, by simp only [maxLen] at h6; omega, fun _ => ⟨⟨g, 0, none⟩, rfl, fun j hj => ?_⟩⟩
  have h9 := OwnM.cells ⟨g, cap, cur, fz, rfl, h2, h3, h4, h5, h6, h7, h8⟩ j (.int .u8 (xs.getD j 0)) (by simp [encs, List.getD_eq_getElem?_getD, hj])
  exact h9
section
variable {P : Program} {ops : Array Oper} {o : Oper} {rest : List Oper} {a : Act} {Q : Exit → Act → World → Prop}
/-- A string as bytes that will be written. -/
theorem convM_event {W : World} (hgd : o.guard = none) {N : Tmp} (_hd : o.dst = some N) (src dst e : TypeId) (x : Operand) (ho : o.op = .convert src dst x) (s : ByteArray) (hx : a.eval x = .string s) (base : Nat) (hbase : base ≤ W.heap.size)
    {u : TypeDesc} (hs : P.underlying src = some u) (hdt : P.underlying dst = some (.slice e)) (he : P.underlying e = some (.int .u8)) (hsz : s.size ≤ 9223372036854775807)
    (h : ∀ v w1, OwnM w1 base e v (bytesOf s) → Below W.heap.size W w1 → wpList P ops Q rest (a.put o.dst v) w1) : wpList P ops Q (o :: rest) a W := by
  have hr := Lib.run_convert_string_bytes (P := P) W src dst e s hs hdt he
  refine Kd.event_run (W := W) (w1 := Lib.bytesWorld W e s) (v := .slice (some ⟨W.heap.size, 0, none⟩) s.size (grownCap W s.size 0 e)) hgd (by simp [execOp, ho, hx, hr]) ?_
  exact h _ _ (ownM_conv W base e s hbase hsz) (bytes_below (Below.refl _ _) (Nat.le_refl _) e s)
end
section
variable {P : Program} {ops : Array Oper} {o : Oper} {rest : List Oper} {a : Act} {Q : Exit → Act → World → Prop}
/-- Bytes appended to such bytes. -/
theorem appendM_event {w0 W : World} {base : Nat} (hgd : o.guard = none) {N : Tmp} (_hd : o.dst = some N) (s x : Operand) (t ty e : TypeId) (i : TypeInfo) (ho : o.op = .call { callee := .builtin .append, args := #[s, x], argTypes := #[t, t] }) (hty : o.type = ty)
    (ht : P.underlying t = some (.slice e)) (hi : P.info? e = some i) (hz : i.zero = some (.int .u8 0)) (hs : i.size = 1) (hbt : i.bytes = 1) {v : Value} {xs : List Int} (hv : a.eval s = v) (h : OwnM W base e v xs) (hbase : base ≤ W.heap.size) (HB : Below base w0 W) (ad : Addr) (c : Nat) (ys : List Int) (n : Nat) (hn : n = ys.length)
    (hx : a.eval x = .slice (some ad) n c) (hys : ∀ j u, (encs (Value.int .u8) ys)[j]? = some u → W.cell? (ad.add j) = some u) (hlim : xs.length + ys.length ≤ 140737488355328)
    (hk : ∀ v' w', OwnM w' base e v' (xs ++ ys) → Below base w0 w' → wpList P ops Q rest (a.put o.dst v') w') : wpList P ops Q (o :: rest) a W := by
  subst hn
  obtain ⟨v', w', hr, h1, h2⟩ := run_append_M (P := P) t ty e i ht hi hz hs hbt h hbase HB ad c ys hys hlim
  have h5 := hk v' w' h1 h2
  subst hv hty
  refine wpList_plain hgd fun K hK => ?_
  unfold Oper.wp execOp
  simp only [ho, resolve, invoke, builtin, Sem.run_bind, Sem.run_pure, Result.andThen_ok, List.map_toArray, List.map_cons, List.map_nil, hx, hr]
  exact hK _ _ h5
/-- So many zeros appended. -/
theorem appendZ_event {w0 W : World} {base : Nat} (hgd : o.guard = none) {N : Tmp} (_hd : o.dst = some N) (s x : Operand) (t ti ty e : TypeId) (i : TypeInfo) {k : IntKind} (ho : o.op = .call { callee := .builtin .append, args := #[s, x], argTypes := #[t, ti] }) (hty : o.type = ty)
    (ht : P.underlying t = some (.slice e)) (hti : P.underlying ti = some (.int k)) (hi : P.info? e = some i) (hz : i.zero = some (.int .u8 0)) (hs : i.size = 1) (hbt : i.bytes = 1) {v : Value} {xs : List Int} (hv : a.eval s = v) (h : OwnM W base e v xs) (hbase : base ≤ W.heap.size) (HB : Below base w0 W) (kx : IntKind) (m : Nat)
    (hx : a.eval x = .int kx m) (hlim : xs.length + m ≤ 140737488355328)
    (hk : ∀ v' w', OwnM w' base e v' (xs ++ List.replicate m 0) → Below base w0 w' → wpList P ops Q rest (a.put o.dst v') w') : wpList P ops Q (o :: rest) a W := by
  obtain ⟨v', w', hr, h1, h2⟩ := run_append_zeros_M (P := P) t ti ty e i ht hti hi hz hs hbt h hbase HB kx m hlim
  have h5 := hk v' w' h1 h2
  subst hv hty
  refine wpList_plain hgd fun K hK => ?_
  unfold Oper.wp execOp
  simp only [ho, resolve, invoke, builtin, Sem.run_bind, Sem.run_pure, Result.andThen_ok, List.map_toArray, List.map_cons, List.map_nil, hx, hr]
  exact hK _ _ h5
end
theorem lit_cells (W : World) (c : Int) (e : TypeId) : ∀ j u, (encs (Value.int .u8) [c])[j]? = some u → (W.alloc (.cells (encs (Value.int .u8) [c]).toArray e)).cell? ((⟨W.heap.size, 0, none⟩ : Addr).add j) = some u := by
  intro j u h
  match j, h with
  | 0, h =>
    have hu : Value.int .u8 c = u := by simpa [encs] using h
    subst hu
    exact (blk_cell (heap_alloc_new W _) 0).trans rfl
  | j + 1, h => simp [encs] at h
theorem OwnM.set {w : World} {base e : Nat} {g n cap : Nat} {xs : List Int} (h : OwnM w base e (.slice (some ⟨g, 0, none⟩) n cap) xs) (j : Nat) (_hj : j < xs.length) (c : Int) : OwnM (w.setCell ⟨g, j, none⟩ (.int .u8 c)) base e (.slice (some ⟨g, 0, none⟩) n cap) (xs.set j c) := by
  obtain ⟨g2, cap2, cur, fz, h1, h2, h3, h4, h5, h6, h7, h8⟩ := h
  injection h1 with h1 h1b h1c
  injection h1 with h1
  injection h1 with h1
  subst h1 h1c
  refine ⟨g, cap, cur.setIfInBounds j (.int .u8 c), fz, by rw [List.length_set]; rw [h1b], h2, ?_, by simpa using h4, by rw [List.length_set]; exact h5, h6, by simpa using h7, ?_⟩
  · rw [setCell_eq_setRow w g j cur e fz (.int .u8 c) h3]
    exact setRow_heap w g cur _ e fz h3
  · rw [Array.toList_setIfInBounds, List.length_set, List.take_set, h8]
    simp only [encs, List.map_set]
theorem OwnM.one {w : World} {base e : Nat} {g n cap : Nat} {xs : List Int} (h : OwnM w base e (.slice (some ⟨g, 0, none⟩) n cap) xs) (j : Nat) (hj : j < xs.length) : w.cell? ⟨g, j, none⟩ = some (.int .u8 (rd xs (j : Int))) ∧ w.frozen? ⟨g, j, none⟩ = false := by
  constructor
  · have h1 := OwnM.cells h j (.int .u8 xs[j]) (by simp [encs, hj])
    have hadd : (⟨g, 0, none⟩ : Addr).add j = ⟨g, j, none⟩ := by unfold Addr.add; split <;> simp_all
    rw [hadd] at h1
    rw [h1]
    simp [rd, List.getD, hj]
  · obtain ⟨g2, cap2, cur, fz, h1, h2, h3, h4, h5, h6, h7, h8⟩ := h
    injection h1 with h1 h1b h1c
    injection h1 with h1
    injection h1 with h1
    subst h1
    obtain ⟨lo, hi⟩ := fz
    simp only [World.frozen?, h3, Bool.and_eq_false_iff, decide_eq_false_iff_not]
    simp only at h4
    omega
end Go.Proofs.YtdodghifojkclaaGreatDoorW.PrintWords
