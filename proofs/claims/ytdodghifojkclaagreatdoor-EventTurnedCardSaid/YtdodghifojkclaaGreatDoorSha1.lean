/-
  The digest: it is told for all bytes, and has 32 bytes.
  Conditions: none.
-/
import Derived.Test.YtdodghifojkclaaGreatDoorPPx1
namespace Go.Proofs.YtdodghifojkclaaGreatDoor.Sha
open Go.RowKit Go.Proofs.YtdodghifojkclaaGreatDoor.PP Go.Proofs.YtdodghifojkclaaGreatDoorW.PrintWords Go.Proofs.YtdodghifojkclaaGreatDoorW.PrintLast Go.Proofs.YtdodghifojkclaaGreatDoorW.PrintMore
set_option linter.unusedSimpArgs false
set_option linter.unusedVariables false

/-- From some number of rounds on it is told. -/
def Ev {α : Type} (F : Nat → Option α) (v : α) : Prop := ∃ K, ∀ k, K ≤ k → F k = some v
theorem Ev.pure {α : Type} (v : α) : Sha.Ev (fun _ => some v) v := ⟨0, fun _ _ => rfl⟩
theorem Ev.succ {α : Type} {F G : Nat → Option α} {v : α} (hF : ∀ k, F (k + 1) = G k) (h : Sha.Ev G v) : Sha.Ev F v := by
  obtain ⟨K, h⟩ := h
  refine ⟨K + 1, fun k hk => ?_⟩
  obtain ⟨j, rfl⟩ : ∃ j, k = j + 1 := ⟨k - 1, by omega⟩
  rw [hF]
  exact h j (by omega)
theorem Ev.bind {α β : Type} {F : Nat → Option α} {G : Nat → α → Option β} {v : α} {u : β} (h : Sha.Ev F v) (h2 : Sha.Ev (fun k => G k v) u) : Sha.Ev (fun k => (F k).bind (G k)) u := by
  obtain ⟨K, h⟩ := h
  obtain ⟨L, h2⟩ := h2
  refine ⟨max K L, fun k hk => ?_⟩
  show (F k).bind (G k) = some u
  rw [h k (by omega)]
  exact h2 k (by omega)
theorem Ev.one {α : Type} {F : Nat → Option α} {v u : α} (h : Sha.Ev F v) (h2 : Sha.Ev F u) : v = u := by
  obtain ⟨K, h⟩ := h
  obtain ⟨L, h2⟩ := h2
  have a := h (max K L) (by omega)
  have b := h2 (max K L) (by omega)
  rw [a] at b
  exact Option.some.inj b
theorem Ev.get {α : Type} {F : Nat → Option α} {v : α} (h : Sha.Ev F v) : ∃ k, F k = some v := by
  obtain ⟨K, h⟩ := h
  exact ⟨K, h K (Nat.le_refl _)⟩
theorem w64 {n : Int} (h0 : -9223372036854775808 ≤ n) (h1 : n ≤ 9223372036854775807) : wrap64 n = n := by unfold wrap64; omega
theorem u64w (n : Int) : IntKind.u64.wrap n = n % 18446744073709551616 := by simp [IntKind.wrap, IntKind.bits, IntKind.signed]
/-- A word turned. -/
theorem rot_eq (a n c : Int) (h : Go.bits .and .u64 (IntKind.u64.wrap n) 31 = c) (h0 : 0 ≤ c) (h1 : c ≤ 32) : Ju.f a n = some (Go.bits .or .u32 (shl .u32 a c) (shr .u32 a (32 - c))) := by
  unfold Ju.f
  have e : IntKind.u64.wrap (32 - c) = 32 - c := by rw [u64w]; omega
  rw [h, if_pos h0, e, if_pos (by omega)]
/-! the digest -/
theorem size_zero (s : ByteArray) : s.toList = ([] : List UInt8) ↔ s.size = 0 := by
  rw [ByteArray.toList_eq, ← data_length]
  exact List.length_eq_zero_iff.symm
theorem ext_size (s : ByteArray) (a b : Nat) (h : a ≤ b) (h2 : b ≤ s.size) : (s.extract a b).size = b - a := by simp; omega
def start : List Int := [1779033703, 3144134277, 1013904242, 2773480762, 1359893119, 2600822924, 528734635, 1541459225]
theorem sum_open (k : Nat) (s : ByteArray) : Jx.f k s = Jx.l0 k s start (IntKind.u64.wrap ((IntKind.u64.wrap ((s.size : Int))) * 8)) := by
  unfold Jx.f U4.f
  simp only [Option.bind_some]
  rw [if_pos (by rw [List.length_replicate]), if_pos (by rw [List.length_replicate]; decide)]
  rfl
end Go.Proofs.YtdodghifojkclaaGreatDoor.Sha
