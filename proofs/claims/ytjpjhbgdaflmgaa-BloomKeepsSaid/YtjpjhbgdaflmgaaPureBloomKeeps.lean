/-
  BloomKeeps: of any ids, each one that is such is there in the bits of all; the bits are from 8 to 512 bytes.
  Conditions: none of our own (the list of ids takes at most the model's reach, 2^47 - 4096 bytes).
-/
import Derived.Test.YtjpjhbgdaflmgaaStBloomKeeps
import Derived.Test.YtjpjhbgdaflmgaaBlo4
namespace Go.Proofs.Ytjpjhbgdaflmgaa.Pure
open Go.RowKit Go.Proofs.Ytjpjhbgdaflmgaa.PP Go.Proofs.YtjpjhbgdaflmgaaW.PrintWords Go.Proofs.YtjpjhbgdaflmgaaW.PrintLast Go.Proofs.YtjpjhbgdaflmgaaW.PrintMore Go.Proofs.Ytjpjhbgdaflmgaa.Oct

theorem keeps_loop (ids : List ByteArray) (hl : ids.length ≤ 1000) : ∀ (d k i : Nat), i + d = ids.length → d + 500 < k → palaverlaw14_BloomKeeps.l0 k ids (made ids) (i : Int) = some true
  | 0, k, i, hi, hk => by
    obtain ⟨k, rfl⟩ : ∃ q, k = q + 1 := ⟨k - 1, by omega⟩
    have hz := made_size ids
    have hs := sz_cases (rights ids).length
    rw [palaverlaw14_BloomKeeps.l0, if_neg (by omega), if_pos (by omega), if_pos (by omega), awake14_eq k (by omega)]
    rfl
  | d + 1, k, i, hi, hk => by
    obtain ⟨k, rfl⟩ : ∃ q, k = q + 1 := ⟨k - 1, by omega⟩
    have hil : i < ids.length := by omega
    have hz := made_size ids
    have hs := sz_cases (rights ids).length
    rw [palaverlaw14_BloomKeeps.l0, if_pos (by omega), if_pos (by omega), rdOf_get _ _ hil, w64 (n := (i : Int) + 1) (by omega) (by omega), show ((i : Int) + 1) = ((i + 1 : Nat) : Int) by omega, keeps_loop ids hl d k (i + 1) (by omega) (by omega)]
    split
    · rw [Has_eq k _ _ (by omega) (by omega), Option.bind_some, there_made ids _ (List.getElem_mem hil) (by omega), if_pos rfl]
    · rfl
theorem BloomKeeps : palaverlaw14_BloomKeeps.Stmt := by
  intro ids hids
  suffices h : ∀ k, 30000 ≤ k → palaverlaw14_BloomKeeps.f k ids = some true from ⟨_, h 30000 (Nat.le_refl _)⟩
  intro k hk
  unfold palaverlaw14_BloomKeeps.f
  rcases great_eq k ids (by omega) with h | ⟨hl, h⟩
  · rw [h, Option.bind_some, if_pos rfl, awake14_eq k (by omega)]
    rfl
  · rw [h, Option.bind_some, if_neg (by simp), Make_eq k ids (by omega) (by omega), Option.bind_some]
    exact keeps_loop ids hl ids.length k 0 (by omega) (by omega)
end Go.Proofs.Ytjpjhbgdaflmgaa.Pure
