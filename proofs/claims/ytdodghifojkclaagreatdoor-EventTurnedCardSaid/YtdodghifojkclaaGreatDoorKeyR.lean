/-
  The document's answers for keys are the same: leaves, publics, signatures.
-/
import Derived.Test.YtdodghifojkclaaGreatDoorKeyQ
import Derived.Test.YtdodghifojkclaaGreatDoorMrk4
import Derived.Test.YtdodghifojkclaaGreatDoorPPx3
namespace Go.Proofs.YtdodghifojkclaaGreatDoor.KeyO
open Go.RowKit Go.Proofs.YtdodghifojkclaaGreatDoor.PP Go.Proofs.YtdodghifojkclaaGreatDoorW.PrintWords Go.Proofs.YtdodghifojkclaaGreatDoorW.PrintLast Go.Proofs.YtdodghifojkclaaGreatDoorW.PrintMore
set_option linter.unusedVariables false
set_option linter.unusedSimpArgs false
open Go.Proofs.YtdodghifojkclaaGreatDoor.Sha (ifs ifn)

theorem rnamed_ev (h : Int) (h0 : 0 ≤ h) (h4 : h ≤ 4) (x : ByteArray) (hx : x.size ≤ 300) : Sha.Ev (fun k => Ui.f k h x) (Sha.tT 5 [Sha.one h.toNat, x]) := by
  obtain ⟨n, rfl⟩ : ∃ n : Nat, h = (n : Int) := ⟨h.toNat, by omega⟩
  unfold Ui.f
  exact Sha.Ev.bind (Sha.rone_ev n (by omega)) (Sha.Ev.bind (Sha.rtagT 5 (by decide) _ (pair_mem _ _ (by rw [Sha.one_size]; decide) (by omega)) (by simp)) (Sha.Ev.pure _))
theorem catS_nil : Jn.catS [] = ⟨#[]⟩ := rfl
theorem catS_cons (x : ByteArray) (l : List ByteArray) : Jn.catS (x :: l) = x ++ Jn.catS l := by
  apply ByteArray.ext
  rw [ByteArray.data_append]
  show (x.data.toList ++ Jn.cat l).toArray = x.data ++ (Jn.cat l).toArray
  apply Array.ext'
  simp
theorem app_nil (x : ByteArray) : x ++ (⟨#[]⟩ : ByteArray) = x := by
  apply ByteArray.ext
  rw [ByteArray.data_append]
  simp
/-! the exact sizes -/
theorem Chn32 (q : Nat) : ∀ (n : Nat) (x : ByteArray), x.size = 32 → (Sha.Chn q n x).size = 32
  | 0, x, h => h
  | n + 1, x, h => Chn32 q n _ (Sha.stp_size q x)
theorem valsK_32 (s : ByteArray) (u : Int) (m : ByteArray) : ∀ x ∈ valsK s u m, x.size = 32 := Sha.tab_mem _ _ _ (fun q _ => Chn32 _ _ _ (Sha.sc_size _ _ _))
theorem cat_32 : ∀ (l : List ByteArray), (∀ x ∈ l, x.size = 32) → (Jn.catS l).size = 32 * l.length
  | [], _ => rfl
  | x :: l, h => by
    rw [catS_cons, ByteArray.size_append, h x (List.mem_cons_self ..), cat_32 l (fun y hy => h y (List.mem_cons_of_mem _ hy)), List.length_cons]
    omega
/-! ### The laws' example: a key of one leaf signs once -/

end Go.Proofs.YtdodghifojkclaaGreatDoor.KeyO
