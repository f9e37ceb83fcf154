import Derived.Shelf.Strings.OnBuilder
import Derived.Test.YtnfbagkeenjifaaDoorProg
import Derived.Test.YtnfbagkeenjifaaDoorOwnWords
namespace Go.Proofs.YtnfbagkeenjifaaDoor.Jn
open Go.Shelf Go.RowKit Go.Proofs Go.Proofs.YtnfbagkeenjifaaDoorW.PrintWords
def ren : Go.Shelf.Ren := ⟨fun | 156 => 30 | 165 => 53 | 166 => 54 | 167 => 72 | 169 => 55 | 240 => 74 | 241 => 75 | 276 => 89 | 277 => 90 | n => n, fun | 0 => 0 | 3 => 3 | 4 => 4 | 5 => 5 | 9 => 9 | 20 => 20 | 31 => 53 | 37 => 91 | 70 => 90 | 72 => 93 | 75 => 96 | 76 => 97 | 80 => 26 | 127 => 117 | 164 => 130 | n => n, fun | n => n⟩
theorem lays156 : Go.Proofs.Lays.n156 Tryd.prog ren := {
  mixed := by kernel_rfl
  f156 := Tryd.func30.trans (congrArg some (by kernel_rfl))
  f165 := Tryd.func53.trans (congrArg some (by kernel_rfl))
  f166 := Tryd.func54.trans (congrArg some (by kernel_rfl))
  f169 := Tryd.func55.trans (congrArg some (by kernel_rfl))
  f240 := Tryd.func74.trans (congrArg some (by kernel_rfl))
  f241 := Tryd.func75.trans (congrArg some (by kernel_rfl))
  f276 := Tryd.func89.trans (congrArg some (by kernel_rfl))
  f277 := Tryd.func90.trans (congrArg some (by kernel_rfl))
  t0 := Tryd.underlying0
  a0 := Tryd.isAgg0
  z0 := Tryd.sizeOf0
  v0 := Tryd.zeroValue0
  t3 := Tryd.underlying3
  a3 := Tryd.isAgg3
  z3 := Tryd.sizeOf3
  v3 := Tryd.zeroValue3
  t4 := Tryd.underlying4
  a4 := Tryd.isAgg4
  z4 := Tryd.sizeOf4
  v4 := Tryd.zeroValue4
  t9 := Tryd.underlying9
  a9 := Tryd.isAgg9
  z9 := Tryd.sizeOf9
  v9 := Tryd.zeroValue9
  t20 := Tryd.underlying20
  a20 := Tryd.isAgg20
  z20 := Tryd.sizeOf20
  v20 := Tryd.zeroValue20
  t31 := Tryd.underlying53
  a31 := Tryd.isAgg53
  z31 := Tryd.sizeOf53
  v31 := Tryd.zeroValue53
  t37 := Tryd.underlying91
  a37 := Tryd.isAgg91
  z37 := Tryd.sizeOf91
  v37 := Tryd.zeroValue91
  t70 := Tryd.underlying90
  a70 := Tryd.isAgg90
  z70 := Tryd.sizeOf90
  v70 := Tryd.zeroValue90
  t72 := Tryd.underlying93
  a72 := Tryd.isAgg93
  z72 := Tryd.sizeOf93
  v72 := Tryd.zeroValue93
  t75 := Tryd.underlying96
  a75 := Tryd.isAgg96
  z75 := Tryd.sizeOf96
  v75 := Tryd.zeroValue96
  t76 := Tryd.underlying97
  a76 := Tryd.isAgg97
  z76 := Tryd.sizeOf97
  v76 := Tryd.zeroValue97
  t127 := Tryd.underlying117
  a127 := Tryd.isAgg117
  z127 := Tryd.sizeOf117
  v127 := Tryd.zeroValue117
  t164 := Tryd.underlying130
  a164 := Tryd.isAgg130
  z164 := Tryd.sizeOf130
  v164 := Tryd.zeroValue130 }
theorem extra : Builder.Extra Tryd.prog ren := {
  sizeBuilder := by kernel_rfl
  liesBuilder := by kernel_rfl
  t5 := Tryd.underlying5
  a5 := Tryd.isAgg5
  z5 := Tryd.sizeOf5
  v5 := Tryd.zeroValue5
  infoByte := by kernel_rfl
  cellsByte := by kernel_rfl
  sizeByte := by kernel_rfl
  neB5 := by decide }
/-- Texts one behind the other. -/
def cat : List ByteArray → List UInt8
  | [] => []
  | s :: l => s.data.toList ++ cat l
theorem join_cat : ∀ l : List ByteArray, Lib.join (l.map (·.data.toList)) [] = cat l
  | [] => rfl
  | x :: r => by
    rw [List.map_cons, Lib.join_cons]
    show _ = x.data.toList ++ cat r
    congr 1
    clear x
    induction r with
    | nil => rfl
    | cons y r ih => simp only [Lib.joinTail, List.map_cons, List.flatten_cons, List.nil_append] at ih ⊢; rw [ih]; rfl
def catS (l : List ByteArray) : ByteArray := ⟨(cat l).toArray⟩
theorem cat_le : ∀ (l : List ByteArray), (∀ x ∈ l, x.size ≤ 300) → (cat l).length ≤ 300 * l.length
  | [], _ => Nat.le_refl _
  | s :: l, h => by
    have h1 := h s (List.mem_cons_self ..)
    have h2 := cat_le l (fun x hx => h x (List.mem_cons_of_mem _ hx))
    have h3 : s.data.toList.length = s.size := by
      show s.data.toList.length = s.data.size
      rw [Array.length_toList]
    simp only [cat, List.length_append, List.length_cons, h3]
    omega
theorem catS_size (l : List ByteArray) : (catS l).size = (cat l).length := by
  show (cat l).toArray.size = _
  rw [List.size_toArray]
set_option maxRecDepth 100000 in
/-- 'strings.Join(l, "")' of a row of the call's own. -/
theorem join {e base : Nat} {ok : Nat → Prop} (v : Value) (l : List ByteArray) (w : World) (hr : Kd.R Kd.string e w base ok v l) (hn : l.length ≤ 1000) (hm : ∀ x ∈ l, x.size ≤ 300) :
    Calls Tryd.prog 30 #[v, .string ⟨#[]⟩] w fun e w' => e = .returned (.string (catS l)) ∧ Below w.heap.size w w' := by
  have hl : (cat l).length ≤ 140737488355328 := by
    have := cat_le l hm
    omega
  cases l with
  | nil =>
    obtain ⟨A, c, rfl⟩ := Kd.R_slice hr
    exact (Any.strings_Join_none lays156 extra A c ⟨#[]⟩ w).mono fun e w' ⟨he, hw⟩ => ⟨he, hw ▸ Below.refl _ _⟩
  | cons x r =>
    obtain ⟨g, cap, rfl, hb, hg, _⟩ := Kd.R_form hr (by simp)
    have hrd := Kd.R_reads' hr
    have hall : ∀ (j : Nat) y, (x :: r)[j]? = some y → w.cell? ⟨g, 0 + j, none⟩ = some (.string y) := by
      intro j y hj
      have hlt : j < (x :: r).length := (List.getElem?_eq_some_iff.1 hj).1
      obtain ⟨ad2, e2, h2⟩ := Kd.at_string hrd.2.2 (j : Int) (by omega) (by omega)
      cases e2
      rw [Int.toNat_natCast] at h2
      have ha : (⟨g, 0, none⟩ : Addr).add j = ⟨g, 0 + j, none⟩ := by
        unfold Addr.add
        by_cases hj0 : j = 0
        · subst hj0; rfl
        · rw [if_neg hj0]
      rw [ha] at h2
      rw [h2]
      simp [rdOf, List.getD, hj]
    have hj := Any.strings_Join lays156 extra g 0 cap (x :: r) ⟨#[]⟩ w hall hg (by omega) hrd.2.1 (by rw [show (⟨#[]⟩ : ByteArray).data.toList = [] from rfl, join_cat]; exact hl)
    rw [show (⟨#[]⟩ : ByteArray).data.toList = [] from rfl, join_cat] at hj
    exact hj
end Go.Proofs.YtnfbagkeenjifaaDoor.Jn
