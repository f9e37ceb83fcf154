import Derived.Shelf.Strings.Builder1
import Derived.Shelf.Strings.BuilderF
import Derived.Shelf.Strings.BuilderK
import Derived.Test.YtbiempnleljciaaProg
namespace Go.Proofs.Ytbiempnleljciaa.Bld
open Go.Shelf Go.RowKit Go.Proofs
def ren : Go.Shelf.Ren := ⟨fun | 166 => 21 | 167 => 18 | 169 => 23 | 170 => 22 | 240 => 36 | 276 => 43 | n => n, fun | 0 => 0 | 3 => 3 | 4 => 4 | 5 => 5 | 9 => 9 | 20 => 20 | 37 => 40 | 70 => 39 | 72 => 42 | 75 => 44 | 80 => 52 | 127 => 62 | 164 => 68 | n => n, fun | n => n⟩
theorem lays240 : Go.Proofs.Lays.n240 Try.prog ren := {
  mixed := by kernel_rfl
  f240 := Try.func36.trans (congrArg some (by kernel_rfl))
  f276 := Try.func43.trans (congrArg some (by kernel_rfl))
  t0 := Try.underlying0
  a0 := Try.isAgg0
  z0 := Try.sizeOf0
  v0 := Try.zeroValue0
  t4 := Try.underlying4
  a4 := Try.isAgg4
  z4 := Try.sizeOf4
  v4 := Try.zeroValue4
  t9 := Try.underlying9
  a9 := Try.isAgg9
  z9 := Try.sizeOf9
  v9 := Try.zeroValue9
  t20 := Try.underlying20
  a20 := Try.isAgg20
  z20 := Try.sizeOf20
  v20 := Try.zeroValue20
  t70 := Try.underlying39
  a70 := Try.isAgg39
  z70 := Try.sizeOf39
  v70 := Try.zeroValue39
  t72 := Try.underlying42
  a72 := Try.isAgg42
  z72 := Try.sizeOf42
  v72 := Try.zeroValue42
  t164 := Try.underlying68
  a164 := Try.isAgg68
  z164 := Try.sizeOf68
  v164 := Try.zeroValue68 }
theorem lays170 : Go.Proofs.Lays.n170 Try.prog ren := {
  mixed := by kernel_rfl
  f170 := Try.func22.trans (congrArg some (by kernel_rfl))
  t0 := Try.underlying0
  a0 := Try.isAgg0
  z0 := Try.sizeOf0
  v0 := Try.zeroValue0
  t3 := Try.underlying3
  a3 := Try.isAgg3
  z3 := Try.sizeOf3
  v3 := Try.zeroValue3
  t37 := Try.underlying40
  a37 := Try.isAgg40
  z37 := Try.sizeOf40
  v37 := Try.zeroValue40
  t70 := Try.underlying39
  a70 := Try.isAgg39
  z70 := Try.sizeOf39
  v70 := Try.zeroValue39
  t72 := Try.underlying42
  a72 := Try.isAgg42
  z72 := Try.sizeOf42
  v72 := Try.zeroValue42 }
theorem lays167 : Go.Proofs.Lays.n167 Try.prog ren := {
  mixed := by kernel_rfl
  f167 := Try.func18.trans (congrArg some (by kernel_rfl))
  f240 := Try.func36.trans (congrArg some (by kernel_rfl))
  f276 := Try.func43.trans (congrArg some (by kernel_rfl))
  t0 := Try.underlying0
  a0 := Try.isAgg0
  z0 := Try.sizeOf0
  v0 := Try.zeroValue0
  t4 := Try.underlying4
  a4 := Try.isAgg4
  z4 := Try.sizeOf4
  v4 := Try.zeroValue4
  t5 := Try.underlying5
  a5 := Try.isAgg5
  z5 := Try.sizeOf5
  v5 := Try.zeroValue5
  t9 := Try.underlying9
  a9 := Try.isAgg9
  z9 := Try.sizeOf9
  v9 := Try.zeroValue9
  t20 := Try.underlying20
  a20 := Try.isAgg20
  z20 := Try.sizeOf20
  v20 := Try.zeroValue20
  t37 := Try.underlying40
  a37 := Try.isAgg40
  z37 := Try.sizeOf40
  v37 := Try.zeroValue40
  t70 := Try.underlying39
  a70 := Try.isAgg39
  z70 := Try.sizeOf39
  v70 := Try.zeroValue39
  t72 := Try.underlying42
  a72 := Try.isAgg42
  z72 := Try.sizeOf42
  v72 := Try.zeroValue42
  t75 := Try.underlying44
  a75 := Try.isAgg44
  z75 := Try.sizeOf44
  v75 := Try.zeroValue44
  t164 := Try.underlying68
  a164 := Try.isAgg68
  z164 := Try.sizeOf68
  v164 := Try.zeroValue68 }
theorem lays166 : Go.Proofs.Lays.n166 Try.prog ren := {
  mixed := by kernel_rfl
  f166 := Try.func21.trans (congrArg some (by kernel_rfl))
  f240 := Try.func36.trans (congrArg some (by kernel_rfl))
  f276 := Try.func43.trans (congrArg some (by kernel_rfl))
  t0 := Try.underlying0
  a0 := Try.isAgg0
  z0 := Try.sizeOf0
  v0 := Try.zeroValue0
  t3 := Try.underlying3
  a3 := Try.isAgg3
  z3 := Try.sizeOf3
  v3 := Try.zeroValue3
  t4 := Try.underlying4
  a4 := Try.isAgg4
  z4 := Try.sizeOf4
  v4 := Try.zeroValue4
  t9 := Try.underlying9
  a9 := Try.isAgg9
  z9 := Try.sizeOf9
  v9 := Try.zeroValue9
  t20 := Try.underlying20
  a20 := Try.isAgg20
  z20 := Try.sizeOf20
  v20 := Try.zeroValue20
  t37 := Try.underlying40
  a37 := Try.isAgg40
  z37 := Try.sizeOf40
  v37 := Try.zeroValue40
  t70 := Try.underlying39
  a70 := Try.isAgg39
  z70 := Try.sizeOf39
  v70 := Try.zeroValue39
  t72 := Try.underlying42
  a72 := Try.isAgg42
  z72 := Try.sizeOf42
  v72 := Try.zeroValue42
  t75 := Try.underlying44
  a75 := Try.isAgg44
  z75 := Try.sizeOf44
  v75 := Try.zeroValue44
  t164 := Try.underlying68
  a164 := Try.isAgg68
  z164 := Try.sizeOf68
  v164 := Try.zeroValue68 }
theorem lays169 : Go.Proofs.Lays.n169 Try.prog ren := {
  mixed := by kernel_rfl
  f169 := Try.func23.trans (congrArg some (by kernel_rfl))
  t0 := Try.underlying0
  a0 := Try.isAgg0
  z0 := Try.sizeOf0
  v0 := Try.zeroValue0
  t3 := Try.underlying3
  a3 := Try.isAgg3
  z3 := Try.sizeOf3
  v3 := Try.zeroValue3
  t9 := Try.underlying9
  a9 := Try.isAgg9
  z9 := Try.sizeOf9
  v9 := Try.zeroValue9
  t37 := Try.underlying40
  a37 := Try.isAgg40
  z37 := Try.sizeOf40
  v37 := Try.zeroValue40
  t70 := Try.underlying39
  a70 := Try.isAgg39
  z70 := Try.sizeOf39
  v70 := Try.zeroValue39
  t72 := Try.underlying42
  a72 := Try.isAgg42
  z72 := Try.sizeOf42
  v72 := Try.zeroValue42
  t127 := Try.underlying62
  a127 := Try.isAgg62
  z127 := Try.sizeOf62
  v127 := Try.zeroValue62 }
theorem extra : Builder.Extra Try.prog ren := {
  sizeBuilder := by kernel_rfl
  liesBuilder := by kernel_rfl
  t5 := Try.underlying5
  a5 := Try.isAgg5
  z5 := Try.sizeOf5
  v5 := Try.zeroValue5
  infoByte := by kernel_rfl
  cellsByte := by kernel_rfl
  sizeByte := by kernel_rfl
  neB5 := by decide }

/-- A builder of the call's own, in block b, that holds the bytes acc; what lay below b stands as in w0. -/
structure St (w0 : World) (b : Nat) (acc : List UInt8) (W : World) : Prop where
  bld : Lib.IsBuilderF 42 5 b b (Lib.byteCells acc) W
  bel : Below b w0 W
  le : b ≤ w0.heap.size
theorem St.size {w0 W : World} {b : Nat} {acc : List UInt8} (h : St w0 b acc W) : b ≤ W.heap.size := Nat.le_trans h.le h.bel.size
/-- 'var b strings.Builder'. -/
theorem St.fresh (w0 : World) : St w0 w0.heap.size [] (w0.alloc (.cells #[.pointer none, .slice none 0 0] 42)) :=
  ⟨Lib.IsBuilderF.of (Lib.fresh_isBuilder 42 5 w0), (Below.refl _ w0).alloc (Nat.le_refl _) _, Nat.le_refl _⟩
theorem St.byte {w0 W : World} {b : Nat} {acc : List UInt8} (h : St w0 b acc W) (c : Int) (h0 : 0 ≤ c) (h1 : c < 256) (hl : acc.length + 1 ≤ 140737488355328) :
    Calls Try.prog 18 #[.pointer (some ⟨b, 0, none⟩), .int .u8 c] W fun e W' => e = .returned .nilIface ∧ St w0 b (acc ++ [UInt8.ofNat c.toNat]) W' := by
  refine (Any.Builder_WriteByte_k lays167 extra b b (Lib.byteCells acc) c W h.bld (by rw [Lib.byteCells_length]; exact hl) h.size).mono ?_
  rintro e W' ⟨rfl, h1', b1, _⟩
  refine ⟨rfl, ⟨?_, h.bel.trans b1, h.le⟩⟩
  have e1 : Lib.byteCells (acc ++ [UInt8.ofNat c.toNat]) = Lib.byteCells acc ++ [.int .u8 c] := by
    rw [Lib.byteCells_append]
    congr 1
    simp only [Lib.byteCells, List.map_cons, List.map_nil, UInt8.toNat_ofNat']
    congr 2
    omega
  rw [e1]
  exact Or.inr h1'
theorem strCells_eq (s : ByteArray) : Lib.strCells s = Lib.byteCells s.toList := by
  first | rfl | (simp [Lib.strCells, Lib.byteCells]; done) | (simp [Lib.strCells, Lib.byteCells, ByteArray.toList_eq]; done)
theorem St.str {w0 W : World} {b : Nat} {acc : List UInt8} (h : St w0 b acc W) (s : ByteArray) (hl : acc.length + s.size ≤ 140737488355328) :
    Calls Try.prog 21 #[.pointer (some ⟨b, 0, none⟩), .string s] W fun e W' => e = .returned (.tuple #[.int .i64 s.size, .nilIface]) ∧ St w0 b (acc ++ s.toList) W' := by
  refine (Any.Builder_WriteString_k lays166 extra b b (Lib.byteCells acc) s W h.bld (by rw [Lib.byteCells_length]; exact hl) h.size).mono ?_
  rintro e W' ⟨rfl, h1', b1, _⟩
  refine ⟨rfl, ⟨?_, h.bel.trans b1, h.le⟩⟩
  rw [Lib.byteCells_append, ← strCells_eq]
  exact Or.inr h1'
theorem St.out {w0 W : World} {b : Nat} {acc : List UInt8} (h : St w0 b acc W) :
    Calls Try.prog 23 #[.pointer (some ⟨b, 0, none⟩)] W fun e W' => e = .returned (.string ⟨acc.toArray⟩) ∧ St w0 b acc W' := by
  refine (Any.Builder_String_any_k lays169 extra b b acc W h.bld h.size).mono ?_
  rintro e W' ⟨rfl, h1', b1, _⟩
  exact ⟨rfl, ⟨h1', h.bel.trans b1, h.le⟩⟩
theorem atF_later {T e : TypeId} {B b : Nat} {p : Value} {bs : List Value} {w w' : World} (h : Lib.BuilderAtF T e B b p bs w) (hb : Below w.heap.size w w') : Lib.BuilderAtF T e B b p bs w' := by
  obtain ⟨hB, v, h1, h2, h3⟩ := h
  have hk : ∀ (g : Nat) (o : Obj), w.heap[g]? = some o → w'.heap[g]? = some o := fun g o hg => (hb.block g (Array.getElem?_eq_some_iff.1 hg).1).trans hg
  refine ⟨hB, v, hk _ _ h1, ⟨h2.1, ?_⟩, h3⟩
  rcases h2.2 with hn | ⟨g, cap, cur, fz, hv, hbg, hg, rest⟩
  · exact .inl hn
  · exact .inr ⟨g, cap, cur, fz, hv, hbg, hk _ _ hg, rest⟩
/-- .. behind a call that writes only what it makes. -/
theorem St.later {w0 W W' : World} {b : Nat} {acc : List UInt8} (h : St w0 b acc W) (hb : Below W.heap.size W W') : St w0 b acc W' :=
  ⟨h.bld.elim (fun x => .inl (atF_later x hb)) (fun x => .inr (atF_later x hb)), h.bel.trans ⟨hb.os, hb.tape, hb.output, hb.size, fun k hk => hb.block k (Nat.lt_of_lt_of_le hk h.size)⟩, h.le⟩
/-- .. and what was there ahead of it. -/
theorem St.block {w0 W : World} {b : Nat} {acc : List UInt8} (h : St w0 b acc W) {g : Nat} {o : Obj} (hg : w0.heap[g]? = some o) (hl : g < b) : W.heap[g]? = some o := (h.bel.block g hl).trans hg
theorem St.below {w0 W w : World} {b : Nat} {acc : List UInt8} (h : St w0 b acc W) (hw : Below w.heap.size w w0) (hb : w.heap.size ≤ b) : Below w.heap.size w W :=
  hw.trans ⟨h.bel.os, h.bel.tape, h.bel.output, h.bel.size, fun k hk => h.bel.block k (Nat.lt_of_lt_of_le hk hb)⟩
theorem St.cast {w0 W : World} {b : Nat} {acc bs : List UInt8} (h : St w0 b acc W) (e : acc = bs) : St w0 b bs W := e ▸ h
theorem five {W : World} {g : Nat} {t : TypeId} {x0 x1 x2 x3 x4 : Value} (h : W.heap[g]? = some (.cells #[x0, x1, x2, x3, x4] t (0, 0))) :
    W.cell? ⟨g, 0, none⟩ = some x0 ∧ W.cell? ⟨g, 1, none⟩ = some x1 ∧ W.cell? ⟨g, 2, none⟩ = some x2 ∧ W.cell? ⟨g, 3, none⟩ = some x3 ∧ W.cell? ⟨g, 4, none⟩ = some x4 :=
  ⟨(Lib.cell_of_heap h 0).trans rfl, (Lib.cell_of_heap h 1).trans rfl, (Lib.cell_of_heap h 2).trans rfl, (Lib.cell_of_heap h 3).trans rfl, (Lib.cell_of_heap h 4).trans rfl⟩
theorem St.len {w0 W : World} {b : Nat} {acc : List UInt8} (h : St w0 b acc W) :
    Calls Try.prog 22 #[.pointer (some ⟨b, 0, none⟩)] W fun e W' => e = .returned (.int .i64 acc.length) ∧ W' = W := by
  refine (Any.Builder_Len_f lays170 b b (Lib.byteCells acc) W h.bld).mono ?_
  rintro e W' ⟨rfl, rfl⟩
  exact ⟨by rw [Lib.byteCells_length], rfl⟩

end Go.Proofs.Ytbiempnleljciaa.Bld
