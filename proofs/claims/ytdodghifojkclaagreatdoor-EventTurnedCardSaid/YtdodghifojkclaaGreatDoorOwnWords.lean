import Derived.Test.YtdodghifojkclaaGreatDoorWWords
import Derived.Test.YtdodghifojkclaaGreatDoorWLast
import Derived.Test.YtdodghifojkclaaGreatDoorWMore
import Derived.Test.YtdodghifojkclaaGreatDoorWTab
import Derived.Lib.ConvBytes
import Derived.Lib.BufferWrite
import Derived.Laws.CopyOwn
set_option linter.unusedVariables false
namespace Go.Proofs.YtdodghifojkclaaGreatDoorW.PrintWords
open Go.RowKit Go.Proofs.YtdodghifojkclaaGreatDoorW.PrintLast

theorem less_not : ∀ x y : List UInt8, (Op.bytesLess x y || x == y) = !(Op.bytesLess y x)
  | [], [] => by simp [Op.bytesLess]
  | [], b :: y => by simp [Op.bytesLess]
  | a :: x, [] => by simp [Op.bytesLess]
  | a :: x, b :: y => by
    have ih := less_not x y
    simp only [Op.bytesLess]
    by_cases h : a = b
    · subst h
      have hl : ¬ a < a := by rw [UInt8.lt_iff_toNat_lt]; omega
      simp [hl] at *
      exact ih
    · have hn : a.toNat ≠ b.toNat := fun e => h (UInt8.toNat_inj.1 e)
      have hn2 : ¬ b = a := fun e => h e.symm
      by_cases c : a.toNat < b.toNat
      · have c1 : a < b := UInt8.lt_iff_toNat_lt.2 c
        have c2 : ¬ b < a := by rw [UInt8.lt_iff_toNat_lt]; omega
        simp [hn2, c1, c2]
      · have c1 : ¬ a < b := by rw [UInt8.lt_iff_toNat_lt]; omega
        have c2 : b < a := by rw [UInt8.lt_iff_toNat_lt]; omega
        simp [h, c1, c2]
@[go_sem] theorem binOp_string_leq' (t : TypeId) (a b : ByteArray) : binOp .leq t (.string a) (.string b) = pure (.bool !(Op.bytesLess b.toList a.toList)) := by
  rw [← less_not]; simp [binOp, Op.stringOp]
@[go_sem] theorem binOp_string_gtr' (t : TypeId) (a b : ByteArray) : binOp .gtr t (.string a) (.string b) = pure (.bool (Op.bytesLess b.toList a.toList)) := by
  rw [show Op.bytesLess b.toList a.toList = !(Op.bytesLess a.toList b.toList || a.toList == b.toList) by rw [less_not, Bool.not_not]]
  simp [binOp, Op.stringOp]
@[go_sem] theorem binOp_string_geq' (t : TypeId) (a b : ByteArray) : binOp .geq t (.string a) (.string b) = pure (.bool !(Op.bytesLess a.toList b.toList)) := by simp [binOp, Op.stringOp]
theorem nonempty_l (l : List UInt8) : (!l.isEmpty) = (l != []) := by cases l <;> rfl
/-- The address of a row: a local array is told as a row of the call's own. -/
@[reducible] def ptrOf : Value → Option Addr
  | .slice A _ _ => A
  | _ => none
@[go_sem] theorem ptrOf_slice (A : Option Addr) (n c : Nat) : ptrOf (.slice A n c) = A := rfl

section
variable {P : Program} {ops : Array Oper} {o : Oper} {rest : List Oper} {a : Act} {Q : Exit → Act → World → Prop}
/-- A local array of plain values: a row of the call's own. -/
theorem R_arr {α : Type} (enc : α → Value) (h1 : ∀ x, (enc x).oneCell' = true) {w0 W : World} (base e : Nat) (hgd : o.guard = none) {N : Tmp} (_hd : o.dst = some N) (xs : List α)
    (hrun : (execOp a.eval o).run P W = .ok (.value (.pointer (some ⟨W.heap.size, 0, none⟩))) (W.alloc (.cells (xs.map enc).toArray e)))
    (HB : Below base w0 W) (hbase : base ≤ W.heap.size) (hm : xs.length ≤ 9223372036854775807)
    (h : ∀ v1 w1, (Kd.scalar enc h1).R e w1 base (fun _ => True) v1 xs → Below base w0 w1 → W.grownBy w1 none → (∃ b, v1.ownBlock = some b ∧ W.heap.size ≤ b) → wpList P ops Q rest (a.put o.dst (.pointer (ptrOf v1))) w1) : wpList P ops Q (o :: rest) a W := by
  refine Kd.event_run hgd hrun (h (.slice (some ⟨W.heap.size, 0, none⟩) xs.length xs.length) _ ?_ (HB.alloc hbase _) (World.grownBy_alloc W _ none) ⟨W.heap.size, by simp [Value.ownBlock], Nat.le_refl _⟩)
  refine Kd.R_of_own ?_ (fun _ _ => trivial)
  have h2 := World.ownsRow_lit (base := base) (e := e) (size := 1) W (xs.map enc).toArray xs.length hbase (by simpa [maxLen] using hm) (by simp)
  simpa [encs] using h2
/-- The words of the rounds, as the program's package lays them. -/
def keysL : List Int := [1116352408, 1899447441, 3049323471, 3921009573, 961987163, 1508970993, 2453635748, 2870763221, 3624381080, 310598401, 607225278, 1426881987, 1925078388, 2162078206, 2614888103, 3248222580, 3835390401, 4022224774, 264347078, 604807628, 770255983, 1249150122, 1555081692, 1996064986, 2554220882, 2821834349, 2952996808, 3210313671, 3336571891, 3584528711, 113926993, 338241895, 666307205, 773529912, 1294757372, 1396182291, 1695183700, 1986661051, 2177026350, 2456956037, 2730485921, 2820302411, 3259730800, 3345764771, 3516065817, 3600352804, 4094571909, 275423344, 430227734, 506948616, 659060556, 883997877, 958139571, 1322822218, 1537002063, 1747873779, 1955562222, 2024104815, 2227730452, 2361852424, 2428436474, 2756734187, 3204031479, 3329325298]
/-- A whole array of the call's own, stored into at once. -/
theorem R_whole {α : Type} {enc : α → Value} {h1 : ∀ x, (enc x).oneCell' = true} {e g n cap base : Nat} {ok : Nat → Prop} {W : World} {xs ys : List α} (h : (Kd.scalar enc h1).R e W base ok (.slice (some ⟨g, 0, none⟩) n cap) xs) (hl : ys.length = xs.length) :
    (Kd.scalar enc h1).R e (W.setCells g 0 (encs enc ys)) base ok (.slice (some ⟨g, 0, none⟩) n cap) ys ∧ W.grownBy (W.setCells g 0 (encs enc ys)) (some g) := by
  have hn : n = xs.length := (Kd.R_reads' h).1
  have ho := Kd.own_of_R h
  rcases ho.2 with ⟨hv, _⟩ | ⟨g2, cap2, cur, hv, hb, hh, hc1, hc2, hc3, hc4⟩
  · cases hv
  · injection hv with hv1 hv2 hv3
    injection hv1 with hv1
    injection hv1 with hv1
    subst hv1
    have hfit : 0 + (encs enc ys).length ≤ cur.size := by rw [encs_length, hl]; simp at *; omega
    obtain ⟨cur', h3, h4, h5⟩ := setCells_row (encs enc ys) 0 W cur hh hfit
    obtain ⟨s1, s2, s3, s4⟩ := setCells_same g (encs enc ys) 0 W
    subst hv3
    have hk : ∀ k, (Value.slice (some ⟨g, 0, none⟩) n cap).ownBlock = some k → ok k := h.1
    refine ⟨?_, ⟨s1, s2, s3, Nat.le_of_eq s4.symm, fun k hk1 hk2 => setCells_far (encs enc ys) 0 k (fun e2 => hk2 (by rw [e2]))⟩⟩
    have hnl : n = ys.length := by omega
    subst hnl
    refine Kd.R_of_own ⟨by rw [encs_length, Nat.mul_one], .inr ⟨g, cap, cur', rfl, hb, h3, by omega, hc2, by rw [h4, hc3], ?_⟩⟩ hk
    rw [h5, List.take_zero, List.nil_append, Nat.mul_one, List.take_append_of_le_length (by rw [encs_length]; omega), List.take_of_length_le (by rw [encs_length]; omega)]
/-- A whole array stored into a block: the run, what the block holds then, and what stays. -/
theorem store_run0 {P : Program} {o : Oper} {a : Act} {W : World} {t : TypeId} {p : Tmp} {x : Operand} {e g : Nat} {cur : Array Value} {k : IntKind} (ys : List Int) (ho : o.op = .store t (.tmp p) x) (haddr : a.eval (.tmp p) = .pointer (some ⟨g, 0, none⟩)) (hx : a.eval x = .agg (encs (Value.int k) ys).toArray)
    (ht : (P.info? t).map (·.size) = some ys.length) (hh : W.heap[g]? = some (.cells cur e (0, 0))) (hl : ys.length = cur.size) : (execOp a.eval o).run P W = .ok .skip (W.setCells g 0 (encs (Value.int k) ys)) := by
  have hs := run_store_run (P := P) (o := 0) t (.agg (encs (Value.int k) ys).toArray) (encs (Value.int k) ys) hh (by simp [Value.cells]) (by rw [encs_length]; exact ht) (by rw [encs_length, hl]; omega) (by intro q hq; simp only [encs, List.mem_map] at hq; obtain ⟨z, _, rfl⟩ := hq; rfl)
  simp [execOp, ho, haddr, hx, hs]
theorem store_heap0 {W : World} {e g : Nat} {cur : Array Value} (vs : List Value) (hh : W.heap[g]? = some (.cells cur e (0, 0))) (hl : vs.length = cur.size) : (W.setCells g 0 vs).heap[g]? = some (.cells vs.toArray e (0, 0)) := by
  obtain ⟨cur', h3, h4, h5⟩ := setCells_row vs 0 W cur hh (by omega)
  rw [h3]
  have : cur' = vs.toArray := by
    apply Array.ext'
    rw [h5, List.take_zero, List.nil_append, List.drop_of_length_le (by rw [Array.length_toList]; omega), List.append_nil]
  rw [this]
theorem store_below0 {w0 W : World} {base g : Nat} (vs : List Value) (h : Below base w0 W) (hg : base ≤ g) : Below base w0 (W.setCells g 0 vs) := by
  obtain ⟨s1, s2, s3, s4⟩ := setCells_same g vs 0 W
  exact h.trans ⟨s1, s2, s3, by rw [s4]; exact Nat.le_refl _, fun k hk => setCells_far vs 0 k (by omega)⟩
/-- The store itself. -/
theorem whole_run {α : Type} {enc : α → Value} {h1 : ∀ x, (enc x).oneCell' = true} {P : Program} {o : Oper} {a : Act} {W : World} {t : TypeId} {p : Tmp} {x : Operand} {e g n cap base : Nat} {ok : Nat → Prop} {xs ys : List α}
    (ho : o.op = .store t (.tmp p) x) (haddr : a.eval (.tmp p) = .pointer (some ⟨g, 0, none⟩)) (hx : a.eval x = .agg (encs enc ys).toArray) (ht : (P.info? t).map (·.size) = some ys.length)
    (h : (Kd.scalar enc h1).R e W base ok (.slice (some ⟨g, 0, none⟩) n cap) xs) (hl : ys.length = xs.length) : (execOp a.eval o).run P W = .ok .skip (W.setCells g 0 (encs enc ys)) := by
  have hn : n = xs.length := (Kd.R_reads' h).1
  have hov := Kd.own_of_R h
  rcases hov.2 with ⟨hv, _⟩ | ⟨g2, cap2, cur, hv, hb, hh, hc1, hc2, hc3, hc4⟩
  · cases hv
  · injection hv with hv1 hv2 hv3
    injection hv1 with hv1
    injection hv1 with hv1
    subst hv1
    have hs := run_store_run (P := P) (o := 0) t (.agg (encs enc ys).toArray) (encs enc ys) hh (by simp [Value.cells]) (by rw [encs_length]; exact ht) (by rw [encs_length, hl]; omega) (by intro q hq; simp only [encs, List.mem_map] at hq; obtain ⟨z, _, rfl⟩ := hq; exact h1 z)
    simp [execOp, ho, haddr, hx, hs]
section
variable {P : Program} {ops : Array Oper} {o : Oper} {rest : List Oper} {a : Act} {Q : Exit → Act → World → Prop}
/-- An element of an array's value. -/
theorem aidx_event {W : World} {k : IntKind} {n : Nat} (hgd : o.guard = none) {N : Tmp} (_hd : o.dst = some N) (t e : TypeId) (x i : Operand) (ho : o.op = .index t x i) (ys : List Int) (hx : a.eval x = .agg (ys.map (Value.int k)).toArray) (j : Int) (hi : a.eval i = .int .i64 j)
    (ht : P.underlying t = some (.array n e)) (hl : ys.length = n) (ha : (isAgg e).run P W = .ok false W) (hz : (sizeOf e).run P W = .ok 1 W) (h0 : 0 ≤ j) (hj : j < n)
    (h : wpList P ops Q rest (a.put o.dst (.int k (rd ys j))) W) : wpList P ops Q (o :: rest) a W := by
  refine Kd.event_run hgd ?_ h
  have h2 : j.toNat < ys.length := by omega
  have hg : ys[j.toNat]? = some (rd ys j) := by
    simp [rd, List.getElem?_eq_getElem h2, List.getD_eq_getElem?_getD]
  simp [execOp, ho, hx, hi, Instr.index, asIntOf, run_underlying ht, h0, hj, hz, part, ha, hg]
end
/-- A store in a region that draws, its address and value as they are told. -/
theorem skip_set {P : Program} {ops : Array Oper} {Q : Exit → Act → World → Prop} {oi : Oper} {a : Act} {w : World} {K : Act → World → Prop} (p : Addr) (v : Value) (hw : Region.wanted oi (yielded ops a.tmps) = true) (hN : oi.dst = none) (hrun : (execOp a.eval oi).run P w = .ok .skip (w.setCell p v))
    (h : K a (w.setCell p v)) : if Region.wanted oi (yielded ops a.tmps) = true then Oper.wp P oi a w K Q else K (a.put none undef) w := PrintLast.skip_ hw hN hrun h
section
variable {P : Program} {ops : Array Oper} {o : Oper} {rest : List Oper} {a : Act} {Q : Exit → Act → World → Prop}
/-- A local array as a slice, from its beginning on. -/
theorem aslice_event {W : World} (hgd : o.guard = none) {N : Tmp} (_hd : o.dst = some N) (t e : TypeId) (n g : Nat) (x : Operand) (ho : o.op = .slice t x none none none) (hx : a.eval x = .pointer (some ⟨g, 0, none⟩)) (ht : P.underlying t = some (.array n e)) (hz : (sizeOf e).run P W = .ok 1 W)
    (h : wpList P ops Q rest (a.put o.dst (.slice (some ⟨g, 0, none⟩) n n)) W) : wpList P ops Q (o :: rest) a W := by
  refine Kd.event_run hgd ?_ h
  have ht2 := run_underlying (w := W) ht
  by_cases hn : n = 0
  · subst hn
    simp [execOp, ho, hx, Instr.sliceAt, ht2, Instr.sureAddr, Instr.sliceBounds, hz]
  · simp [execOp, ho, hx, Instr.sliceAt, ht2, Instr.sureAddr, Instr.sliceBounds, hz, hn]
    rfl
theorem aslice_to_event {W : World} (hgd : o.guard = none) {N : Tmp} (_hd : o.dst = some N) (t e : TypeId) (n g : Nat) (x y : Operand) (ho : o.op = .slice t x none (some y) none) (hx : a.eval x = .pointer (some ⟨g, 0, none⟩)) (j : Int) (hy : a.eval y = .int .i64 j) (h0 : 0 ≤ j) (hj : j ≤ n) (ht : P.underlying t = some (.array n e)) (hz : (sizeOf e).run P W = .ok 1 W)
    (h : wpList P ops Q rest (a.put o.dst (.slice (some ⟨g, 0, none⟩) j.toNat n)) W) : wpList P ops Q (o :: rest) a W := by
  refine Kd.event_run hgd ?_ h
  have ht2 := run_underlying (w := W) ht
  by_cases hn : n = 0
  · subst hn
    obtain rfl : j = 0 := by omega
    simp [execOp, ho, hx, hy, Instr.sliceAt, ht2, Instr.sureAddr, Instr.sliceBounds, Instr.sliceBound, asIntOf, hz]
  · simp [execOp, ho, hx, hy, Instr.sliceAt, ht2, Instr.sureAddr, Instr.sliceBounds, Instr.sliceBound, asIntOf, h0, hj, hz, hn]
    rfl
/-- Its bytes as a string. -/
theorem astr_event {W : World} {e g n cap base m c : Nat} {ok : Nat → Prop} {xs : List Int} (hgd : o.guard = none) {N : Tmp} (_hd : o.dst = some N) (src dst el : TypeId) (x : Operand) (ho : o.op = .convert src dst x) (hx : a.eval x = .slice (some ⟨g, 0, none⟩) m c)
    (hs : P.underlying src = some (.slice el)) (he : P.underlying el = some (.int .u8)) (hd : P.underlying dst = some .string) (HO : (Kd.int .u8).R e W base ok (.slice (some ⟨g, 0, none⟩) n cap) xs) (hm : m ≤ xs.length)
    (h : wpList P ops Q rest (a.put o.dst (.string (strOfNums (xs.take m)))) W) : wpList P ops Q (o :: rest) a W := by
  have hC := Kd.C_take (m := m) (Kd.R_reads' HO).2.2 hm
  have hl : (xs.take m).length = m := by rw [List.length_take]; omega
  have hr := Kd.C_string (c := c) hs he hd hC
  rw [hl] at hr
  exact Kd.event_run hgd (by simp [execOp, ho, hx, hr]) h
/-- A string copied onto it. -/
theorem acopy_event {W : World} {e g n cap base m c : Nat} {ok : Nat → Prop} {xs : List Int} (hgd : o.guard = none) {N : Tmp} (_hd : o.dst = some N) (t t' el : TypeId) (x y : Operand) (ho : o.op = .call { callee := .builtin .copy, args := #[x, y], argTypes := #[t, t'] })
    (ht : P.underlying t = some (.slice el)) (hinfo : (P.info? el).map (·.size) = some 1) (hx : a.eval x = .slice (some ⟨g, 0, none⟩) m c) (s : ByteArray) (hy : a.eval y = .string s) (HO : (Kd.int .u8).R e W base ok (.slice (some ⟨g, 0, none⟩) n cap) xs) (hm : m = xs.length) (hs : s.size ≤ xs.length)
    (h : ∀ w1, (Kd.int .u8).R e w1 base ok (.slice (some ⟨g, 0, none⟩) n cap) (bytesOf s ++ xs.drop s.size) → W.grownBy w1 (some g) → wpList P ops Q rest (a.put o.dst (.int .i64 (s.size : Int))) w1) : wpList P ops Q (o :: rest) a W := by
  have hn : n = xs.length := (Kd.R_reads' HO).1
  have hov := Kd.own_of_R HO
  have hk := HO.1
  rcases hov.2 with ⟨hv, _⟩ | ⟨g2, cap2, cur, hv, hb, hh, hc1, hc2, hc3, hc4⟩
  · cases hv
  · injection hv with hv1 hv2 hv3
    injection hv1 with hv1
    injection hv1 with hv1
    subst hv1 hv3
    rw [Nat.mul_one] at hc3 hc4
    have hr := Lib.run_copy_row_string (P := P) W t t' o.type el g 0 m c s cur e ht hinfo hh (by omega) (by omega)
    simp only [List.take_zero, List.nil_append, Nat.zero_add] at hr
    have hbc : (Lib.byteCells s.data.toList) = encs (Value.int .u8) (bytesOf s) := by simp [Lib.byteCells, encs, bytesOf]
    suffices hh2 : (Kd.int .u8).R e (W.setRow g (Lib.byteCells s.data.toList ++ cur.toList.drop s.size).toArray) base ok (.slice (some ⟨g, 0, none⟩) n cap) (bytesOf s ++ xs.drop s.size) ∧ W.grownBy (W.setRow g (Lib.byteCells s.data.toList ++ cur.toList.drop s.size).toArray) (some g) by
      have h5 := h _ hh2.1 hh2.2
      refine wpList_plain hgd fun K hK => ?_
      unfold Oper.wp execOp
      simp only [ho, resolve, invoke, builtin, Sem.run_bind, Sem.run_pure, Result.andThen_ok, List.map_toArray, List.map_cons, List.map_nil, hx, hy, hr]
      exact hK _ _ h5
    refine ⟨?_, ?_⟩
    · refine Kd.R_of_own (base := base) ?_ hk
      have hl : (bytesOf s ++ xs.drop s.size).length = n := by rw [List.length_append, bytesOf_length, List.length_drop]; omega
      rw [hl]
      refine ⟨by rw [encs_length, hl, Nat.mul_one], .inr ⟨g, cap, _, rfl, hb, setRow_heap W g cur _ e (0, 0) hh, by omega, hc2, ?_, ?_⟩⟩
      · rw [Nat.mul_one, List.size_toArray, List.length_append, hbc, encs_length, bytesOf_length, List.length_drop, Array.length_toList]; omega
      · rw [Nat.mul_one, hbc, encs_append]
        have e1 : encs (Value.int .u8) (xs.drop s.size) = (encs (Value.int .u8) xs).drop s.size := by simp [encs, List.map_drop]
        rw [e1, ← hc4]
        apply List.ext_getElem?
        intro j
        simp only [List.getElem?_take, List.getElem?_append, encs_length, bytesOf_length, List.getElem?_drop]
        by_cases h1 : j < s.size
        · rw [if_pos h1, if_pos h1, if_pos (by omega)]
        · rw [if_neg h1, if_neg h1]
          by_cases h2 : j < n
          · rw [if_pos h2, if_pos (by omega)]
          · rw [if_neg h2, if_neg (by omega)]
    · have hb2 := below_setRow (B := g) (w0 := W) (w := W) (Below.refl _ _) (Nat.le_refl _) (Lib.byteCells s.data.toList ++ cur.toList.drop s.size).toArray
      exact ⟨hb2.os, hb2.tape, hb2.output, by rw [size_setRow]; exact Nat.le_refl _, fun k _ hk2 => setRow_other W g k _ (fun e2 => hk2 (by rw [e2]))⟩
end
/-- A string's bytes as a new slice that is only read. -/
theorem conv_event {W : World} (hgd : o.guard = none) {N : Tmp} (_hd : o.dst = some N) (src dst e : TypeId) (x : Operand) (ho : o.op = .convert src dst x) (s : ByteArray) (hx : a.eval x = .string s)
    {ys : List Int} (hys : ys = bytesOf s) {u : TypeDesc} (hs : P.underlying src = some u) (hdt : P.underlying dst = some (.slice e)) (he : P.underlying e = some (.int .u8)) (hsz : s.size ≤ 9223372036854775807)
    (h : ∀ A c w1, (Kd.int .u8).C w1 A ys.length ys → ys.length ≤ c → Below W.heap.size W w1 → wpList P ops Q rest (a.put o.dst (.slice A ys.length c)) w1) : wpList P ops Q (o :: rest) a W := by
  subst hys
  have hr := Lib.run_convert_string_bytes (P := P) W src dst e s hs hdt he
  refine Kd.event_run (W := W) (w1 := Lib.bytesWorld W e s) (v := .slice (some ⟨W.heap.size, 0, none⟩) s.size (grownCap W s.size 0 e)) hgd (by simp [execOp, ho, hx, hr]) ?_
  have h1 := h (some ⟨W.heap.size, 0, none⟩) (grownCap W s.size 0 e) (Lib.bytesWorld W e s) ?_ ?_ ?_
  · rw [bytesOf_length] at h1; exact h1
  · rw [bytesOf_length]
    have h2 := bytes_reads W e s hsz
    exact Kd.C_of_reads (enc := Value.int .u8) (d := (0 : Int)) (h1 := fun _ => rfl) h2
  · rw [bytesOf_length]
    exact grownCap_ge W s.size 0 e
  · exact bytes_below (Below.refl _ _) (Nat.le_refl _) e s
end
/-- A string's bytes as a new slice that is only read, with the block where they lie. -/
theorem conv_foot {W : World} (e : TypeId) (s : ByteArray) (hsz : s.size ≤ 9223372036854775807) : Kd.F (Kd.int .u8) (Lib.bytesWorld W e s) (fun k => W.heap.size ≤ k) (some ⟨W.heap.size, 0, none⟩) s.size (bytesOf s) := by
  intro W' hW
  have h2 := bytes_reads W e s hsz
  have hb : W'.heap[W.heap.size]? = (Lib.bytesWorld W e s).heap[W.heap.size]? := hW W.heap.size (Nat.le_refl _) (by rw [Lib.bytesWorld_size]; omega)
  refine Kd.C_of_reads (enc := Value.int .u8) (d := (0 : Int)) (h1 := fun _ => rfl) ⟨h2.1, h2.2.1, fun hp => ?_⟩
  obtain ⟨ad, he, hc⟩ := h2.2.2 hp
  refine ⟨ad, he, fun j hj => ?_⟩
  have h3 := hc j hj
  injection he with he
  subst he
  have hadd : (⟨W.heap.size, 0, none⟩ : Addr).add j = ⟨W.heap.size, j, none⟩ := by unfold Addr.add; split <;> simp_all
  rw [hadd] at h3 ⊢
  rw [← h3]
  simp only [World.cell?, hb]
section
variable {P : Program} {ops : Array Oper} {o : Oper} {rest : List Oper} {a : Act} {Q : Exit → Act → World → Prop}
theorem conv_V_event {W : World} (hgd : o.guard = none) {N : Tmp} (_hd : o.dst = some N) (src dst e : TypeId) (x : Operand) (ho : o.op = .convert src dst x) (s : ByteArray) (hx : a.eval x = .string s)
    {ys : List Int} (hys : ys = bytesOf s) {u : TypeDesc} (hs : P.underlying src = some u) (hdt : P.underlying dst = some (.slice e)) (he : P.underlying e = some (.int .u8)) (hsz : s.size ≤ 9223372036854775807)
    (h : ∀ v1 w1, Kd.V (Kd.int .u8) e w1 W.heap.size (fun k => W.heap.size ≤ k) v1 ys → Below W.heap.size W w1 → wpList P ops Q rest (a.put o.dst v1) w1) : wpList P ops Q (o :: rest) a W := by
  subst hys
  have hr := Lib.run_convert_string_bytes (P := P) W src dst e s hs hdt he
  refine Kd.event_run (W := W) (w1 := Lib.bytesWorld W e s) (v := .slice (some ⟨W.heap.size, 0, none⟩) s.size (grownCap W s.size 0 e)) hgd (by simp [execOp, ho, hx, hr]) ?_
  have h1 := h (.slice (some ⟨W.heap.size, 0, none⟩) s.size (grownCap W s.size 0 e)) (Lib.bytesWorld W e s) ?_ ?_
  · exact h1
  · have h3 := Kd.V_mk (e := e) (base := W.heap.size) (c := grownCap W s.size 0 e) (xs := bytesOf s) (by rw [bytesOf_length]; exact grownCap_ge W s.size 0 e) (by rw [bytesOf_length]; exact conv_foot (W := W) e s hsz)
    rw [bytesOf_length] at h3
    exact h3
  · exact bytes_below (Below.refl _ _) (Nat.le_refl _) e s
end
/-- A function value: what it answers at 0, 1, .., whatever has been made since. -/
def FV (P : Program) (w : World) (F : Value) (l : List Int) : Prop := ∃ (f : FuncId) (fn : Func) (caps : Array Value), F = .func (.func f) #[] caps ∧ P.funcs[f]? = some fn ∧ (fn.name == "runtime.NumGoroutine") = false ∧ fn.body.isSome = true ∧
  ∀ (i : Int) (W : World), 0 ≤ i → i < (l.length : Int) → Below w.heap.size w W → Calls P f (#[.int .i64 i] ++ caps) W fun e W' => e = .returned (.int .i64 (rd l i)) ∧ Below W.heap.size W W'
section
variable {P : Program} {ops : Array Oper} {o : Oper} {rest : List Oper} {a : Act} {Q : Exit → Act → World → Prop}
theorem fv_event {w W : World} (hgd : o.guard = none) {N : Tmp} (hd : o.dst = some N) (x y : Operand) {ts : Array TypeId} (ho : o.op = .call { callee := .value x, args := #[y], argTypes := ts }) {F : Value} {l : List Int} (hF : FV P w F l) (hx : a.eval x = F) {i : Int} (hy : a.eval y = .int .i64 i)
    (h0 : 0 ≤ i) (h1 : i < (l.length : Int)) (hB : Below w.heap.size w W) (h : ∀ W', Below W.heap.size W W' → wpList P ops Q rest (a.put o.dst (.int .i64 (rd l i))) W') : wpList P ops Q (o :: rest) a W := by
  obtain ⟨f, fn, caps, hf1, hf2, hf3, hf4, hc⟩ := hF
  refine wpList_plain hgd fun K hK => ?_
  have he := enters_ hf2 hf3 hf4 (#[.int .i64 i] ++ caps) W
  have hrun : (execOp a.eval o).run P W = .ok (.enter f (#[.int .i64 i] ++ caps)) W := by
    unfold execOp
    rw [hf1] at hx
    simp [ho, resolve, Deferred.ofValue, invoke, hx, hy, he]
  unfold Oper.wp
  rw [hrun, Oper.upon_enter]
  refine (hc i W h0 h1 hB).mono fun e w'' hh => ?_
  obtain ⟨rfl, hb⟩ := hh
  exact hK _ _ (h w'' hb)
end
/-- How the walk's places are written: in one word. -/
theorem pr_ : (∀ (a : Act) (v : Value), a.put none v = a) ∧ (∀ (a : Act) (n : Nat) (v : Value), a.put (some n) v = { a with tmps := a.tmps.setIfInBounds n v }) ∧ (∀ (l : List Value) (i : Nat) (x : Value), l.toArray.setIfInBounds i x = (l.set i x).toArray) ∧ (∀ (x : Value) (xs : List Value) (b : Value), (x :: xs).set 0 b = b :: xs) ∧ (∀ (x : Value) (xs : List Value) (n : Nat) (b : Value), (x :: xs).set (n + 1) b = x :: xs.set n b) ∧ (∀ n, IntKind.i64.wrap n = Go.RowKit.wrap64 n) ∧ (∀ n, IntKind.i32.wrap n = Go.RowKit.wrap32 n) :=
  ⟨fun _ _ => rfl, fun _ _ _ => rfl, fun l i x => List.setIfInBounds_toArray l i x, fun _ _ _ => List.set_cons_zero, fun _ _ _ _ => List.set_cons_succ, Go.Proofs.YtdodghifojkclaaGreatDoorW.PrintLast.i64_w, Go.Proofs.YtdodghifojkclaaGreatDoorW.PrintLast.i32_w⟩
/-! many operations of one kind in one row -/
section
variable {P : Program} {md : Region.Mode} {ops : Array Oper} {Q : Exit → Act → World → Prop} {S : World → Prop} {ds : List Nat}
/-- The same, with a list of what is taken next. -/
def wpL (_L : List (Nat × Option Tmp)) (P : Program) (md : Region.Mode) (ops : Array Oper) (Q : Exit → Act → World → Prop) (S : World → Prop) (ds : List Nat) (fuel : Nat) (l : Array Bool) (a : Act) (w : World) : Prop := wpAnyLast P md ops Q S ds fuel l a w
theorem runs_ (L : List (Nat × Option Tmp)) {fuel : Nat} {l : Array Bool} {a : Act} {w : World} (h : wpL L P md ops Q S ds fuel l a w) : wpAnyLast P md ops Q S ds fuel l a w := h
theorem runsE_ {fuel : Nat} {l : Array Bool} {a : Act} {w : World} (h : wpAnyLast P md ops Q S ds fuel l a w) : wpL [] P md ops Q S ds fuel l a w := h
theorem pureL_ {i : Nat} {N : Option Tmp} {L : List (Nat × Option Tmp)} {oi : Oper} {v : Value} {fuel : Nat} {l : Array Bool} {a : Act} {w : World} (hi : ops[i]? = some oi) (hN : oi.dst = N) (hc : anyB md ops l (l.setIfInBounds i true) i = true)
    (hy : Yields P ops oi v a) {a' : Act} (ha : a.put N v = a')
    (h : wpL L P md ops Q S ds fuel (l.setIfInBounds i true) a' w) (hQ : ∀ c a w, Q (.panic c) (a.put oi.dst v) w → Q (.panic c) a w) : wpL ((i, N) :: L) P md ops Q S ds (fuel + 1) l a w := pure_ _ hi hN hc hQ hy ha h
theorem takeL_ {i : Nat} {N : Option Tmp} {L : List (Nat × Option Tmp)} {oi : Oper} {v : Value} {fuel : Nat} {l : Array Bool} {a : Act} {w : World} (hi : ops[i]? = some oi) (hN : oi.dst = N) (hc : takeB md ops ds l (l.setIfInBounds i true) i = true)
    (hy : YieldsIf P ops S oi v a) (hS : S w) {a' : Act} (ha : a.put N v = a')
    (h : wpL L P md ops Q S ds fuel (l.setIfInBounds i true) a' w) (hQ : ∀ c a w, Q (.panic c) (a.put oi.dst v) w → Q (.panic c) a w) : wpL ((i, N) :: L) P md ops Q S ds (fuel + 1) l a w := take_ _ hi hN hc hQ hy hS ha h
end
theorem c5_ {W : World} {g : Nat} {t : TypeId} {x0 x1 x2 x3 x4 : Value} (h : W.heap[g]? = some (.cells #[x0, x1, x2, x3, x4] t (0, 0))) :
    W.cell? ⟨g, 0, none⟩ = some x0 ∧ W.cell? ⟨g, 1, none⟩ = some x1 ∧ W.cell? ⟨g, 2, none⟩ = some x2 ∧ W.cell? ⟨g, 3, none⟩ = some x3 ∧ W.cell? ⟨g, 4, none⟩ = some x4 :=
  ⟨(blk_cell h 0).trans rfl, (blk_cell h 1).trans rfl, (blk_cell h 2).trans rfl, (blk_cell h 3).trans rfl, (blk_cell h 4).trans rfl⟩
theorem f5_ {W : World} {g : Nat} {t : TypeId} {cs : Array Value} (h : W.heap[g]? = some (.cells cs t (0, 0))) :
    W.frozen? ⟨g, 0, none⟩ = false ∧ W.frozen? ⟨g, 1, none⟩ = false ∧ W.frozen? ⟨g, 2, none⟩ = false ∧ W.frozen? ⟨g, 3, none⟩ = false ∧ W.frozen? ⟨g, 4, none⟩ = false :=
  ⟨blk_frozen h 0, blk_frozen h 1, blk_frozen h 2, blk_frozen h 3, blk_frozen h 4⟩
theorem gm_ : (∀ {α β : Type} (f : α → β) (l : List α), l.toArray.map f = (l.map f).toArray) ∧ (∀ {α β : Type} (f : α → β) (a : α) (l : List α), (a :: l).map f = f a :: l.map f) ∧ (∀ {α β : Type} (f : α → β), ([] : List α).map f = []) :=
  ⟨fun _ _ => List.map_toArray .., fun _ _ _ => rfl, fun _ => rfl⟩
theorem gl_ : (∀ {α : Type} (l : List α) (n : Nat), (l.drop n).length = l.length - n) ∧ (∀ {α : Type} (l : List α) (n : Nat), (l.take n).length = min n l.length) := ⟨fun _ _ => List.length_drop .., fun _ _ => List.length_take ..⟩
theorem lN_ : type_of% (@pw_below_drewN) := @pw_below_drewN
theorem lA_ : type_of% (@below_alloc) := @below_alloc
theorem lD_ : type_of% (@below_drew1) := @below_drew1
theorem lS_ : type_of% (@below_set) := @below_set
theorem bN_ : type_of% (@blk_drewN) := @blk_drewN
theorem bA_ : type_of% (@blk_alloc) := @blk_alloc
theorem bD_ : type_of% (@blk_drew) := @blk_drew
theorem od_ {p : Prop} [Decidable p] (h : decide p = true) : p := of_decide_eq_true h
theorem ob_ {α β : Type} {o : Option α} {f : α → Option β} {b : β} (h : o.bind f = some b) : ∃ a, o = some a ∧ f a = some b := Option.bind_eq_some_iff.mp h
/-! ### Long phrases of the walks as one word: the last argument is a default tactic, run where the word stands (it names what the walk calls HB, HT_ ..). -/
section
variable {p q q2 q3 q4 : Prop}
theorem bl_ (h : p := by repeat (first | (with_reducible first | exact HB.out | apply lA_ | apply lN_ | apply lD_) | exact HB.out)) : p := h
theorem bs_ (x : q) (h : q → p := by intro x_; repeat (first | (with_reducible first | exact HB.out | apply lA_ | apply lN_ | apply lD_ | refine lS_ ?_ x_) | exact HB.out)) : p := h x
theorem hk_ (h : p := by repeat (first | (with_reducible first | exact HK.out | apply KeepBut.set_ | apply keep_drewN | apply keep_drew | apply keep_alloc) | exact HK.out)) : p := h
theorem vq_ (h : p := by first | rfl | (simp; done) | (simp [*]; done) | exact congrArg Value.bool (nonempty_l _) | (refine congrArg (Value.int _) ?_; first | omega | (unfold wrap64; omega))) : p := h
theorem er_ (h : p := by first | rfl | (simp [errW_none, errW_some] <;> rfl) | (simp [*, errW_none, errW_some] <;> rfl)) : p := h
theorem gm1_ (h : p := by (try simp only [gm_]); first | done | rfl | (simp only [gl_]; rfl)) : p := h
theorem gr_ (h : p := by first | (go_simp; done) | (go_simp; rfl)) : p := h
theorem mv_ (x : q) (h : q → p := by intro x_; (with_reducible repeat (first | apply Kd.R_alloc | apply Kd.R_drewN | apply Kd.R_drew)); exact x_) : p := h x
theorem mb_ (x : q) (h : q → p := by intro x_; (with_reducible repeat (first | refine bN_ ?_ _ | refine bD_ ?_ | refine bA_ ?_ _)); exact x_) : p := h x
theorem ad_ [Decidable p] (h : decide p = true := by assumption) : p := od_ h
theorem ae_ [Decidable p] (h : decide p = true := by first | (with_reducible assumption) | assumption) : p := od_ h
theorem qa_ {α : Type} {i n : Int} (l : List α) (m : Nat) (hn : (m : Int) = n := by rfl) (e : l.length = m := by exact od_ (by assumption)) (h : i < (l.length : Int) := by exact od_ (by assumption)) : (i < n) = True := eq_true (by omega)
/-! what a chain of conditions and calls answers, step by step -/
theorem nc_ {α : Type} {c : Prop} [Decidable c] {a : Option α} {r : α} (h : c → a = some r → p) (H : (if c then a else none) = some r) : p := by
  by_cases hc : c
  · rw [if_pos hc] at H; exact h hc H
  · rw [if_neg hc] at H; cases H
theorem nd_ {α : Type} {c : Prop} [Decidable c] {a : Option α} {r : α} (h : c → decide c = true → a = some r → p) (H : (if c then a else none) = some r) : p := nc_ (fun hc => h hc (decide_eq_true hc)) H
theorem ne_ {α : Type} {c : Prop} [Decidable c] {a : Option α} {r : α} (h : c → c = True → decide c = true → a = some r → p) (H : (if c then a else none) = some r) : p := nc_ (fun hc => h hc (eq_true hc) (decide_eq_true hc)) H
theorem oa_ {α β : Type} {x : Option α} {f : α → Option β} {r : β} (h : ∀ t, Aside0 (x = some t) → f t = some r → p) (H : x.bind f = some r) : p := by
  obtain ⟨t, h1, h2⟩ := ob_ H
  exact h t ⟨h1⟩ h2
theorem oy_ {α β : Type} {x : α} {f : α → Option β} {r : β} (h : ∀ t, Aside0 (t = x) → f t = some r → p) (H : (some x).bind f = some r) : p := h x ⟨rfl⟩ H
end
section
variable {P : Program} {md : Region.Mode} {ops : Array Oper} {Q : Exit → Act → World → Prop} {S : World → Prop} {ds : List Nat}
theorem pL_ {i : Nat} {N : Option Tmp} {L : List (Nat × Option Tmp)} {oi : Oper} {v : Value} {fuel : Nat} {l : Array Bool} {a : Act} {w : World} {a' : Act} (h : wpL L P md ops Q S ds fuel (l.setIfInBounds i true) a' w)
    (hi : ops[i]? = some oi := by exact rfl) (hN : oi.dst = N := by exact rfl) (hc : anyB md ops l (l.setIfInBounds i true) i = true := by exact any_of HT_.out (by kernel_rfl))
    (hy : Yields P ops oi v a := by refine Or.inl ⟨by rfl, ?_⟩; intro w'; go_simp; with_reducible rfl) (ha : a.put N v = a' := by simp only [pr_]; rfl)
    (hQ : ∀ c a w, Q (.panic c) (a.put oi.dst v) w → Q (.panic c) a w := by exact fun _ _ _ h => h) : wpL ((i, N) :: L) P md ops Q S ds (fuel + 1) l a w := pureL_ hi hN hc hy ha h hQ
theorem gL_ {rest : List Oper} {oi : Oper} {a : Act} {w : World} (N : Tmp) {f : FuncId} {fn : Func} {as : Array Operand} {ts : Array TypeId} (hf : P.funcs[f]? = some fn) (args : Array Value)
    (h : Calls P f args w fun e w' => ∃ v, e = .returned v ∧ wpList P ops Q rest (a.put (some N) v) w') (hd : oi.dst = some N := by exact rfl) (hg : oi.guard = none := by exact rfl) (hname : (fn.name == "runtime.NumGoroutine") = false := by kernel_rfl) (hb : fn.body.isSome = true := by exact rfl)
    (hop : oi.op = .call { callee := .value (.func f), args := as, argTypes := ts } := by exact rfl) (hargs : as.map a.eval = args := by (try simp only [gm_]); first | done | rfl | (simp only [gl_]; rfl)) : wpList P ops Q (oi :: rest) a w := goesL_ (some N) hd hg hf hname hb args hop hargs h
end
/-! ### sq4: the steps of a region that draws, as words -/
section
variable {P : Program} {md : Region.Mode} {ops : Array Oper} {Q : Exit → Act → World → Prop} {S : World → Prop} {ds : List Nat}
theorem tL_ {i : Nat} {N : Option Tmp} {L : List (Nat × Option Tmp)} {oi : Oper} {v : Value} {fuel : Nat} {l : Array Bool} {a : Act} {w : World} {a' : Act} (h : wpL L P md ops Q S ds fuel (l.setIfInBounds i true) a' w)
    (hi : ops[i]? = some oi := by exact rfl) (hN : oi.dst = N := by exact rfl) (hc : takeB md ops ds l (l.setIfInBounds i true) i = true := by exact take_ofW HT_.out HW_.out (by kernel_rfl))
    (hy : YieldsIf P ops S oi v a := by refine Or.inl ⟨by rfl, ?_⟩; intro w' s_; (repeat (have s1_ := And.left s_; replace s_ := And.right s_)); go_simp; with_reducible rfl) (hS : S w := by exact hHeld) (ha : a.put N v = a' := by simp only [pr_]; rfl)
    (hQ : ∀ c a w, Q (.panic c) (a.put oi.dst v) w → Q (.panic c) a w := by exact fun _ _ _ h => h) : wpL ((i, N) :: L) P md ops Q S ds (fuel + 1) l a w := takeL_ hi hN hc hy hS ha h hQ
theorem pK_ (i N : Nat) {oi : Oper} {v : Value} {fuel : Nat} {l : Array Bool} {a : Act} {w : World} {a' : Act} (h : wpAnyLast P md ops Q S ds fuel (l.setIfInBounds i true) a' w)
    (hi : ops[i]? = some oi := by exact rfl) (hN : oi.dst = some N := by exact rfl) (hc : anyB md ops l (l.setIfInBounds i true) i = true := by exact any_of HT_.out (by kernel_rfl))
    (hy : Yields P ops oi v a := by refine Or.inl ⟨by rfl, ?_⟩; intro w'; go_simp; with_reducible rfl) (ha : a.put (some N) v = a' := by simp only [pr_]; rfl)
    (hQ : ∀ c a w, Q (.panic c) (a.put oi.dst v) w → Q (.panic c) a w := by exact fun _ _ _ h => h) : wpAnyLast P md ops Q S ds (fuel + 1) l a w := pure_ _ hi hN hc hQ hy ha h
theorem oK_ (i : Nat) (N : Option Tmp) {oi : Oper} {fuel : Nat} {l : Array Bool} {a : Act} {w : World}
    (h : ∀ K : Act → World → Prop, Shut (∀ a' w', S w' → (S w' → wpAnyLast P md ops Q S ds fuel (l.setIfInBounds i true) a' w') → K a' w') → if Region.wanted oi (yielded ops a.tmps) = true then Oper.wp P oi a w K Q else K (a.put N undef) w)
    (hi : ops[i]? = some oi := by exact rfl) (hN : oi.dst = N := by exact rfl) (hc : readyB md ops l (l.setIfInBounds i true) i = true := by exact one_of HT_.out (by kernel_rfl)) (hd : i ∉ ds := by decide) : wpAnyLast P md ops Q S ds (fuel + 1) l a w := one_ _ hi hN hc hd h
theorem lK_ (i : Nat) (N : Option Tmp) {oi : Oper} {fuel : Nat} {l : Array Bool} {a : Act} {w : World}
    (h : ∀ K : Act → World → Prop, Shut (∀ a' w', wpAnyLast P md ops Q S ds fuel (l.setIfInBounds i true) a' w' → K a' w') → if Region.wanted oi (yielded ops a.tmps) = true then Oper.wp P oi a w K Q else K (a.put N undef) w)
    (hi : ops[i]? = some oi := by exact rfl) (hN : oi.dst = N := by exact rfl) (hc : readyB md ops l (l.setIfInBounds i true) i = true := by exact one_of HT_.out (by kernel_rfl)) (hd : i ∈ ds := by decide) : wpAnyLast P md ops Q S ds (fuel + 1) l a w := last_ _ hi hN hc hd h
theorem nK_ (N : Option Tmp) {fuel : Nat} {l : Array Bool} {a a' a0 : Act} {v : Value} {w : World} (h : wpAnyLast P md ops Q S ds fuel l a' w) (he : a = Act.put a0 N v := by exact rfl) (ha : Act.put a0 N v = a' := by simp only [pr_]; rfl) : wpAnyLast P md ops Q S ds fuel l a w := norm_ (he.trans ha) h
theorem dK_ {l : Array Bool} {a : Act} {w : World} {n : Nat} (h : Q .normal a w) (hr : (Region.ready md ops l == []) = true := by exact done_of HT_.out (by kernel_rfl)) : wpAnyLast P md ops Q S ds n l a w := done_ hr h
theorem sK_ {id : Nat} {a : Act} {w : World} {T : Bool × List (List Nat × List Nat)} {B : List Nat} (n : Nat) (S : World → Prop) (ds : List Nat) (hT : rtab .any ops = T) (hB : waitsOk T.2 B = true) (hS : S w.drew)
    (h : S w.drew → Aside0 (rtab .any ops = T) → Aside0 (waitsOk T.2 B = true) → wpAnyLast P .any ops Q S ds n (Array.replicate n false) a w.drew) (hm : P.follows .mixedOrders = true := by kernel_rfl) (hn : ops.size = n := by exact rfl) : (Code.region id ops true).wp P Q a w :=
  start_ (Array.replicate n false) hm hn rfl hS (fun s => h s ⟨hT⟩ ⟨hB⟩)
end
end Go.Proofs.YtdodghifojkclaaGreatDoorW.PrintWords
