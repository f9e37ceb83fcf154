import Derived.Shelf.Strings.OnBuilder
import Derived.Test.YtdodghifojkclaaGreatDoorProg
import Derived.Test.YtdodghifojkclaaGreatDoorOwnWords
namespace Go.Proofs.YtdodghifojkclaaGreatDoor.Jn
open Go.Shelf Go.RowKit Go.Proofs Go.Proofs.YtdodghifojkclaaGreatDoorW.PrintWords
def ren : Go.Shelf.Ren := ⟨fun | 156 => 54 | 165 => 85 | 166 => 69 | 167 => 70 | 169 => 71 | 240 => 95 | 241 => 103 | 276 => 106 | 277 => 113 | n => n, fun | 0 => 0 | 3 => 3 | 4 => 4 | 5 => 5 | 9 => 9 | 20 => 20 | 31 => 22 | 37 => 68 | 70 => 108 | 72 => 110 | 75 => 112 | 76 => 113 | 80 => 64 | 127 => 135 | 164 => 146 | n => n, fun | n => n⟩
theorem lays156 : Go.Proofs.Lays.n156 Tryz.prog ren := {
  mixed := by kernel_rfl
  f156 := Tryz.func54.trans (congrArg some (by kernel_rfl))
  f165 := Tryz.func85.trans (congrArg some (by kernel_rfl))
  f166 := Tryz.func69.trans (congrArg some (by kernel_rfl))
  f169 := Tryz.func71.trans (congrArg some (by kernel_rfl))
  f240 := Tryz.func95.trans (congrArg some (by kernel_rfl))
  f241 := Tryz.func103.trans (congrArg some (by kernel_rfl))
  f276 := Tryz.func106.trans (congrArg some (by kernel_rfl))
  f277 := Tryz.func113.trans (congrArg some (by kernel_rfl))
  t0 := Tryz.underlying0
  a0 := Tryz.isAgg0
  z0 := Tryz.sizeOf0
  v0 := Tryz.zeroValue0
  t3 := Tryz.underlying3
  a3 := Tryz.isAgg3
  z3 := Tryz.sizeOf3
  v3 := Tryz.zeroValue3
  t4 := Tryz.underlying4
  a4 := Tryz.isAgg4
  z4 := Tryz.sizeOf4
  v4 := Tryz.zeroValue4
  t9 := Tryz.underlying9
  a9 := Tryz.isAgg9
  z9 := Tryz.sizeOf9
  v9 := Tryz.zeroValue9
  t20 := Tryz.underlying20
  a20 := Tryz.isAgg20
  z20 := Tryz.sizeOf20
  v20 := Tryz.zeroValue20
  t31 := Tryz.underlying22
  a31 := Tryz.isAgg22
  z31 := Tryz.sizeOf22
  v31 := Tryz.zeroValue22
  t37 := Tryz.underlying68
  a37 := Tryz.isAgg68
  z37 := Tryz.sizeOf68
  v37 := Tryz.zeroValue68
  t70 := Tryz.underlying108
  a70 := Tryz.isAgg108
  z70 := Tryz.sizeOf108
  v70 := Tryz.zeroValue108
  t72 := Tryz.underlying110
  a72 := Tryz.isAgg110
  z72 := Tryz.sizeOf110
  v72 := Tryz.zeroValue110
  t75 := Tryz.underlying112
  a75 := Tryz.isAgg112
  z75 := Tryz.sizeOf112
  v75 := Tryz.zeroValue112
  t76 := Tryz.underlying113
  a76 := Tryz.isAgg113
  z76 := Tryz.sizeOf113
  v76 := Tryz.zeroValue113
  t127 := Tryz.underlying135
  a127 := Tryz.isAgg135
  z127 := Tryz.sizeOf135
  v127 := Tryz.zeroValue135
  t164 := Tryz.underlying146
  a164 := Tryz.isAgg146
  z164 := Tryz.sizeOf146
  v164 := Tryz.zeroValue146 }
theorem extra : Builder.Extra Tryz.prog ren := {
  sizeBuilder := by kernel_rfl
  liesBuilder := by kernel_rfl
  t5 := Tryz.underlying5
  a5 := Tryz.isAgg5
  z5 := Tryz.sizeOf5
  v5 := Tryz.zeroValue5
  infoByte := by kernel_rfl
  cellsByte := by kernel_rfl
  sizeByte := by kernel_rfl
  neB5 := by decide }
/-- Texts one behind the other. -/
def cat : List ByteArray → List UInt8
  | [] => []
  | s :: l => s.data.toList ++ cat l
theorem join_cat : ∀ l : List ByteArray, Lib.join (l.map (·.data.toList)) [] = cat l
  | [] => rfl
  | x :: r => by
    rw [List.map_cons, Lib.join_cons]
    show _ = x.data.toList ++ cat r
    congr 1
    clear x
    induction r with
    | nil => rfl
    | cons y r ih => simp only [Lib.joinTail, List.map_cons, List.flatten_cons, List.nil_append] at ih ⊢; rw [ih]; rfl
def catS (l : List ByteArray) : ByteArray := ⟨(cat l).toArray⟩
theorem cat_le : ∀ (l : List ByteArray), (∀ x ∈ l, x.size ≤ 300) → (cat l).length ≤ 300 * l.length
  | [], _ => Nat.le_refl _
  | s :: l, h => by
    have h1 := h s (List.mem_cons_self ..)
    have h2 := cat_le l (fun x hx => h x (List.mem_cons_of_mem _ hx))
    have h3 : s.data.toList.length = s.size := by
      show s.data.toList.length = s.data.size
      rw [Array.length_toList]
    simp only [cat, List.length_append, List.length_cons, h3]
    omega
theorem catS_size (l : List ByteArray) : (catS l).size = (cat l).length := by
  show (cat l).toArray.size = _
  rw [List.size_toArray]
set_option maxRecDepth 100000 in
/-- 'strings.Join(l, "")' of a row of the call's own. -/
theorem join {e base : Nat} {ok : Nat → Prop} (v : Value) (l : List ByteArray) (w : World) (hr : Kd.R Kd.string e w base ok v l) (hn : l.length ≤ 1000) (hm : ∀ x ∈ l, x.size ≤ 300) :
    Calls Tryz.prog 54 #[v, .string ⟨#[]⟩] w fun e w' => e = .returned (.string (catS l)) ∧ Below w.heap.size w w' := by
  have hl : (cat l).length ≤ 140737488355328 := by
    have := cat_le l hm
    omega
  cases l with
  | nil =>
    obtain ⟨A, c, rfl⟩ := Kd.R_slice hr
    exact (Any.strings_Join_none lays156 extra A c ⟨#[]⟩ w).mono fun e w' ⟨he, hw⟩ => ⟨he, hw ▸ Below.refl _ _⟩
  | cons x r =>
    obtain ⟨g, cap, rfl, hb, hg, _⟩ := Kd.R_form hr (by simp)
    have hrd := Kd.R_reads' hr
    have hall : ∀ (j : Nat) y, (x :: r)[j]? = some y → w.cell? ⟨g, 0 + j, none⟩ = some (.string y) := by
      intro j y hj
      have hlt : j < (x :: r).length := (List.getElem?_eq_some_iff.1 hj).1
      obtain ⟨ad2, e2, h2⟩ := Kd.at_string hrd.2.2 (j : Int) (by omega) (by omega)
      cases e2
      rw [Int.toNat_natCast] at h2
      have ha : (⟨g, 0, none⟩ : Addr).add j = ⟨g, 0 + j, none⟩ := by
        unfold Addr.add
        by_cases hj0 : j = 0
        · subst hj0; rfl
        · rw [if_neg hj0]
      rw [ha] at h2
      rw [h2]
      simp [rdOf, List.getD, hj]
    have hj := Any.strings_Join lays156 extra g 0 cap (x :: r) ⟨#[]⟩ w hall hg (by omega) hrd.2.1 (by rw [show (⟨#[]⟩ : ByteArray).data.toList = [] from rfl, join_cat]; exact hl)
    rw [show (⟨#[]⟩ : ByteArray).data.toList = [] from rfl, join_cat] at hj
    exact hj
end Go.Proofs.YtdodghifojkclaaGreatDoor.Jn
