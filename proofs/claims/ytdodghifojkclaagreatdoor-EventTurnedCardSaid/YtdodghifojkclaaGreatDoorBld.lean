import Derived.Shelf.Strings.Builder1
import Derived.Shelf.Strings.BuilderF
import Derived.Shelf.Strings.BuilderK
import Derived.Shelf.Strings.Builder2
import Derived.Test.YtdodghifojkclaaGreatDoorProg
namespace Go.Proofs.YtdodghifojkclaaGreatDoor.Bld
open Go.Shelf Go.RowKit Go.Proofs
def ren : Go.Shelf.Ren := ⟨fun | 165 => 85 | 166 => 69 | 167 => 70 | 169 => 71 | 240 => 95 | 241 => 103 | 276 => 106 | 277 => 113 | n => n, fun | 0 => 0 | 3 => 3 | 4 => 4 | 5 => 5 | 9 => 9 | 20 => 20 | 37 => 68 | 70 => 108 | 72 => 110 | 75 => 112 | 80 => 64 | 127 => 135 | 164 => 146 | n => n, fun | n => n⟩
theorem lays167 : Go.Proofs.Lays.n167 Tryz.prog ren := {
  mixed := by kernel_rfl
  f167 := Tryz.func70.trans (congrArg some (by kernel_rfl))
  f240 := Tryz.func95.trans (congrArg some (by kernel_rfl))
  f276 := Tryz.func106.trans (congrArg some (by kernel_rfl))
  t0 := Tryz.underlying0
  a0 := Tryz.isAgg0
  z0 := Tryz.sizeOf0
  v0 := Tryz.zeroValue0
  t4 := Tryz.underlying4
  a4 := Tryz.isAgg4
  z4 := Tryz.sizeOf4
  v4 := Tryz.zeroValue4
  t5 := Tryz.underlying5
  a5 := Tryz.isAgg5
  z5 := Tryz.sizeOf5
  v5 := Tryz.zeroValue5
  t9 := Tryz.underlying9
  a9 := Tryz.isAgg9
  z9 := Tryz.sizeOf9
  v9 := Tryz.zeroValue9
  t20 := Tryz.underlying20
  a20 := Tryz.isAgg20
  z20 := Tryz.sizeOf20
  v20 := Tryz.zeroValue20
  t37 := Tryz.underlying68
  a37 := Tryz.isAgg68
  z37 := Tryz.sizeOf68
  v37 := Tryz.zeroValue68
  t70 := Tryz.underlying108
  a70 := Tryz.isAgg108
  z70 := Tryz.sizeOf108
  v70 := Tryz.zeroValue108
  t72 := Tryz.underlying110
  a72 := Tryz.isAgg110
  z72 := Tryz.sizeOf110
  v72 := Tryz.zeroValue110
  t75 := Tryz.underlying112
  a75 := Tryz.isAgg112
  z75 := Tryz.sizeOf112
  v75 := Tryz.zeroValue112
  t164 := Tryz.underlying146
  a164 := Tryz.isAgg146
  z164 := Tryz.sizeOf146
  v164 := Tryz.zeroValue146 }
theorem lays166 : Go.Proofs.Lays.n166 Tryz.prog ren := {
  mixed := by kernel_rfl
  f166 := Tryz.func69.trans (congrArg some (by kernel_rfl))
  f240 := Tryz.func95.trans (congrArg some (by kernel_rfl))
  f276 := Tryz.func106.trans (congrArg some (by kernel_rfl))
  t0 := Tryz.underlying0
  a0 := Tryz.isAgg0
  z0 := Tryz.sizeOf0
  v0 := Tryz.zeroValue0
  t3 := Tryz.underlying3
  a3 := Tryz.isAgg3
  z3 := Tryz.sizeOf3
  v3 := Tryz.zeroValue3
  t4 := Tryz.underlying4
  a4 := Tryz.isAgg4
  z4 := Tryz.sizeOf4
  v4 := Tryz.zeroValue4
  t9 := Tryz.underlying9
  a9 := Tryz.isAgg9
  z9 := Tryz.sizeOf9
  v9 := Tryz.zeroValue9
  t20 := Tryz.underlying20
  a20 := Tryz.isAgg20
  z20 := Tryz.sizeOf20
  v20 := Tryz.zeroValue20
  t37 := Tryz.underlying68
  a37 := Tryz.isAgg68
  z37 := Tryz.sizeOf68
  v37 := Tryz.zeroValue68
  t70 := Tryz.underlying108
  a70 := Tryz.isAgg108
  z70 := Tryz.sizeOf108
  v70 := Tryz.zeroValue108
  t72 := Tryz.underlying110
  a72 := Tryz.isAgg110
  z72 := Tryz.sizeOf110
  v72 := Tryz.zeroValue110
  t75 := Tryz.underlying112
  a75 := Tryz.isAgg112
  z75 := Tryz.sizeOf112
  v75 := Tryz.zeroValue112
  t164 := Tryz.underlying146
  a164 := Tryz.isAgg146
  z164 := Tryz.sizeOf146
  v164 := Tryz.zeroValue146 }
theorem lays169 : Go.Proofs.Lays.n169 Tryz.prog ren := {
  mixed := by kernel_rfl
  f169 := Tryz.func71.trans (congrArg some (by kernel_rfl))
  t0 := Tryz.underlying0
  a0 := Tryz.isAgg0
  z0 := Tryz.sizeOf0
  v0 := Tryz.zeroValue0
  t3 := Tryz.underlying3
  a3 := Tryz.isAgg3
  z3 := Tryz.sizeOf3
  v3 := Tryz.zeroValue3
  t9 := Tryz.underlying9
  a9 := Tryz.isAgg9
  z9 := Tryz.sizeOf9
  v9 := Tryz.zeroValue9
  t37 := Tryz.underlying68
  a37 := Tryz.isAgg68
  z37 := Tryz.sizeOf68
  v37 := Tryz.zeroValue68
  t70 := Tryz.underlying108
  a70 := Tryz.isAgg108
  z70 := Tryz.sizeOf108
  v70 := Tryz.zeroValue108
  t72 := Tryz.underlying110
  a72 := Tryz.isAgg110
  z72 := Tryz.sizeOf110
  v72 := Tryz.zeroValue110
  t127 := Tryz.underlying135
  a127 := Tryz.isAgg135
  z127 := Tryz.sizeOf135
  v127 := Tryz.zeroValue135 }
theorem lays165 : Go.Proofs.Lays.n165 Tryz.prog ren := {
  mixed := by kernel_rfl
  f165 := Tryz.func85.trans (congrArg some (by kernel_rfl))
  f240 := Tryz.func95.trans (congrArg some (by kernel_rfl))
  f241 := Tryz.func103.trans (congrArg some (by kernel_rfl))
  f276 := Tryz.func106.trans (congrArg some (by kernel_rfl))
  f277 := Tryz.func113.trans (congrArg some (by kernel_rfl))
  t0 := Tryz.underlying0
  a0 := Tryz.isAgg0
  z0 := Tryz.sizeOf0
  v0 := Tryz.zeroValue0
  t3 := Tryz.underlying3
  a3 := Tryz.isAgg3
  z3 := Tryz.sizeOf3
  v3 := Tryz.zeroValue3
  t4 := Tryz.underlying4
  a4 := Tryz.isAgg4
  z4 := Tryz.sizeOf4
  v4 := Tryz.zeroValue4
  t9 := Tryz.underlying9
  a9 := Tryz.isAgg9
  z9 := Tryz.sizeOf9
  v9 := Tryz.zeroValue9
  t20 := Tryz.underlying20
  a20 := Tryz.isAgg20
  z20 := Tryz.sizeOf20
  v20 := Tryz.zeroValue20
  t37 := Tryz.underlying68
  a37 := Tryz.isAgg68
  z37 := Tryz.sizeOf68
  v37 := Tryz.zeroValue68
  t70 := Tryz.underlying108
  a70 := Tryz.isAgg108
  z70 := Tryz.sizeOf108
  v70 := Tryz.zeroValue108
  t72 := Tryz.underlying110
  a72 := Tryz.isAgg110
  z72 := Tryz.sizeOf110
  v72 := Tryz.zeroValue110
  t164 := Tryz.underlying146
  a164 := Tryz.isAgg146
  z164 := Tryz.sizeOf146
  v164 := Tryz.zeroValue146 }
theorem extra : Builder.Extra Tryz.prog ren := {
  sizeBuilder := by kernel_rfl
  liesBuilder := by kernel_rfl
  t5 := Tryz.underlying5
  a5 := Tryz.isAgg5
  z5 := Tryz.sizeOf5
  v5 := Tryz.zeroValue5
  infoByte := by kernel_rfl
  cellsByte := by kernel_rfl
  sizeByte := by kernel_rfl
  neB5 := by decide }

/-- A builder of the call's own, in block b, that holds the bytes acc; what lay below b stands as in w0. -/
structure St (w0 : World) (b : Nat) (acc : List UInt8) (W : World) : Prop where
  bld : Lib.IsBuilderF 110 5 b b (Lib.byteCells acc) W
  bel : Below b w0 W
  le : b ≤ w0.heap.size
theorem St.size {w0 W : World} {b : Nat} {acc : List UInt8} (h : St w0 b acc W) : b ≤ W.heap.size := Nat.le_trans h.le h.bel.size
/-- 'var b strings.Builder'. -/
theorem St.fresh (w0 : World) : St w0 w0.heap.size [] (w0.alloc (.cells #[.pointer none, .slice none 0 0] 110)) :=
  ⟨Lib.IsBuilderF.of (Lib.fresh_isBuilder 110 5 w0), (Below.refl _ w0).alloc (Nat.le_refl _) _, Nat.le_refl _⟩
theorem St.byte {w0 W : World} {b : Nat} {acc : List UInt8} (h : St w0 b acc W) (c : Int) (h0 : 0 ≤ c) (h1 : c < 256) (hl : acc.length + 1 ≤ 140737488355328) :
    Calls Tryz.prog 70 #[.pointer (some ⟨b, 0, none⟩), .int .u8 c] W fun e W' => e = .returned .nilIface ∧ St w0 b (acc ++ [UInt8.ofNat c.toNat]) W' := by
  refine (Any.Builder_WriteByte_k lays167 extra b b (Lib.byteCells acc) c W h.bld (by rw [Lib.byteCells_length]; exact hl) h.size).mono ?_
  rintro e W' ⟨rfl, h1', b1, _⟩
  refine ⟨rfl, ⟨?_, h.bel.trans b1, h.le⟩⟩
  have e1 : Lib.byteCells (acc ++ [UInt8.ofNat c.toNat]) = Lib.byteCells acc ++ [.int .u8 c] := by
    rw [Lib.byteCells_append]
    congr 1
    simp only [Lib.byteCells, List.map_cons, List.map_nil, UInt8.toNat_ofNat']
    congr 2
    omega
  rw [e1]
  exact Or.inr h1'
theorem strCells_eq (s : ByteArray) : Lib.strCells s = Lib.byteCells s.toList := by
  first | rfl | (simp [Lib.strCells, Lib.byteCells]; done) | (simp [Lib.strCells, Lib.byteCells, ByteArray.toList_eq]; done)
theorem St.str {w0 W : World} {b : Nat} {acc : List UInt8} (h : St w0 b acc W) (s : ByteArray) (hl : acc.length + s.size ≤ 140737488355328) :
    Calls Tryz.prog 69 #[.pointer (some ⟨b, 0, none⟩), .string s] W fun e W' => e = .returned (.tuple #[.int .i64 s.size, .nilIface]) ∧ St w0 b (acc ++ s.toList) W' := by
  refine (Any.Builder_WriteString_k lays166 extra b b (Lib.byteCells acc) s W h.bld (by rw [Lib.byteCells_length]; exact hl) h.size).mono ?_
  rintro e W' ⟨rfl, h1', b1, _⟩
  refine ⟨rfl, ⟨?_, h.bel.trans b1, h.le⟩⟩
  rw [Lib.byteCells_append, ← strCells_eq]
  exact Or.inr h1'
theorem St.out {w0 W : World} {b : Nat} {acc : List UInt8} (h : St w0 b acc W) :
    Calls Tryz.prog 71 #[.pointer (some ⟨b, 0, none⟩)] W fun e W' => e = .returned (.string ⟨acc.toArray⟩) ∧ St w0 b acc W' := by
  refine (Any.Builder_String_any_k lays169 extra b b acc W h.bld h.size).mono ?_
  rintro e W' ⟨rfl, h1', b1, _⟩
  exact ⟨rfl, ⟨h1', h.bel.trans b1, h.le⟩⟩
theorem atF_later {T e : TypeId} {B b : Nat} {p : Value} {bs : List Value} {w w' : World} (h : Lib.BuilderAtF T e B b p bs w) (hb : Below w.heap.size w w') : Lib.BuilderAtF T e B b p bs w' := by
  obtain ⟨hB, v, h1, h2, h3⟩ := h
  have hk : ∀ (g : Nat) (o : Obj), w.heap[g]? = some o → w'.heap[g]? = some o := fun g o hg => (hb.block g (Array.getElem?_eq_some_iff.1 hg).1).trans hg
  refine ⟨hB, v, hk _ _ h1, ⟨h2.1, ?_⟩, h3⟩
  rcases h2.2 with hn | ⟨g, cap, cur, fz, hv, hbg, hg, rest⟩
  · exact .inl hn
  · exact .inr ⟨g, cap, cur, fz, hv, hbg, hk _ _ hg, rest⟩
/-- .. behind a call that writes only what it makes. -/
theorem St.later {w0 W W' : World} {b : Nat} {acc : List UInt8} (h : St w0 b acc W) (hb : Below W.heap.size W W') : St w0 b acc W' :=
  ⟨h.bld.elim (fun x => .inl (atF_later x hb)) (fun x => .inr (atF_later x hb)), h.bel.trans ⟨hb.os, hb.tape, hb.output, hb.size, fun k hk => hb.block k (Nat.lt_of_lt_of_le hk h.size)⟩, h.le⟩
/-- .. and what was there ahead of it. -/
theorem St.block {w0 W : World} {b : Nat} {acc : List UInt8} (h : St w0 b acc W) {g : Nat} {o : Obj} (hg : w0.heap[g]? = some o) (hl : g < b) : W.heap[g]? = some o := (h.bel.block g hl).trans hg
theorem St.below {w0 W w : World} {b : Nat} {acc : List UInt8} (h : St w0 b acc W) (hw : Below w.heap.size w w0) (hb : w.heap.size ≤ b) : Below w.heap.size w W :=
  hw.trans ⟨h.bel.os, h.bel.tape, h.bel.output, h.bel.size, fun k hk => h.bel.block k (Nat.lt_of_lt_of_le hk hb)⟩
theorem St.cast {w0 W : World} {b : Nat} {acc bs : List UInt8} (h : St w0 b acc W) (e : acc = bs) : St w0 b bs W := e ▸ h
theorem five {W : World} {g : Nat} {t : TypeId} {x0 x1 x2 x3 x4 : Value} (h : W.heap[g]? = some (.cells #[x0, x1, x2, x3, x4] t (0, 0))) :
    W.cell? ⟨g, 0, none⟩ = some x0 ∧ W.cell? ⟨g, 1, none⟩ = some x1 ∧ W.cell? ⟨g, 2, none⟩ = some x2 ∧ W.cell? ⟨g, 3, none⟩ = some x3 ∧ W.cell? ⟨g, 4, none⟩ = some x4 :=
  ⟨(Lib.cell_of_heap h 0).trans rfl, (Lib.cell_of_heap h 1).trans rfl, (Lib.cell_of_heap h 2).trans rfl, (Lib.cell_of_heap h 3).trans rfl, (Lib.cell_of_heap h 4).trans rfl⟩
/-- 'b.Grow(n)' at a fresh builder. -/
theorem St.grow (w0 : World) (n : Nat) (hn : n ≤ 281474976710656) :
    Calls Tryz.prog 85 #[.pointer (some ⟨w0.heap.size, 0, none⟩), .int .i64 n] (w0.alloc (.cells #[.pointer none, .slice none 0 0] 110)) fun e W' => e = .returned (.tuple #[]) ∧ St w0 w0.heap.size [] W' := by
  refine (Any.Builder_Grow_fresh lays165 extra w0.heap.size w0.heap.size n _ (Nat.le_refl _) (heap_alloc_new w0 _) (by simp) hn).mono ?_
  rintro e W' ⟨rfl, h1, b1⟩
  exact ⟨rfl, ⟨Lib.IsBuilderF.of (.inr h1), ((Below.refl _ w0).alloc (Nat.le_refl _) _).trans b1, Nat.le_refl _⟩⟩

end Go.Proofs.YtdodghifojkclaaGreatDoor.Bld
