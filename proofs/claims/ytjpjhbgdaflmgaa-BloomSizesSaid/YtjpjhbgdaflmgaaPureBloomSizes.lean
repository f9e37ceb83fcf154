/-
  BloomSizes: how many bits any count of ids gets, and any id's places among any count of bits, are the document's.
  Conditions: none of our own (the id takes at most the model's reach, 2^47 - 4096 bytes).
-/
import Derived.Test.YtjpjhbgdaflmgaaStBloomSizes
import Derived.Test.YtjpjhbgdaflmgaaBlo4
namespace Go.Proofs.Ytjpjhbgdaflmgaa.Pure
open Go.RowKit Go.Proofs.Ytjpjhbgdaflmgaa.PP Go.Proofs.YtjpjhbgdaflmgaaW.PrintWords Go.Proofs.YtjpjhbgdaflmgaaW.PrintLast Go.Proofs.YtjpjhbgdaflmgaaW.PrintMore Go.Proofs.Ytjpjhbgdaflmgaa.Oct

theorem sizes_loop (n : Int) (l : List Int) (hl : l.length ≤ 4) : ∀ (d k i : Nat), i + d = l.length → d + 500 < k → palaverlaw14_BloomSizes.l0 k n l l (i : Int) = some true
  | 0, k, i, hi, hk => by
    obtain ⟨k, rfl⟩ : ∃ q, k = q + 1 := ⟨k - 1, by omega⟩
    rw [palaverlaw14_BloomSizes.l0, if_neg (by omega), Size_eq k _ (by omega), Option.bind_some, rSize_eq k _ (by omega), Option.bind_some, if_pos rfl, awake14_eq k (by omega)]
    rfl
  | d + 1, k, i, hi, hk => by
    obtain ⟨k, rfl⟩ : ∃ q, k = q + 1 := ⟨k - 1, by omega⟩
    rw [palaverlaw14_BloomSizes.l0, if_pos (by omega), if_pos (by omega), if_pos (by omega), if_pos rfl, w64 (n := (i : Int) + 1) (by omega) (by omega), show ((i : Int) + 1) = ((i + 1 : Nat) : Int) by omega]
    exact sizes_loop n l hl d k (i + 1) (by omega) (by omega)
theorem BloomSizes : palaverlaw14_BloomSizes.Stmt := by
  intro n id m hn hi hm
  suffices h : ∀ k, 30000 ≤ k → palaverlaw14_BloomSizes.f k n id m = some true from ⟨_, h 30000 (Nat.le_refl _)⟩
  intro k hk
  unfold palaverlaw14_BloomSizes.f
  split
  · rw [awake14_eq k (by omega)]; rfl
  · rw [Places_eq k _ _ (by omega), rPlaces_eq k _ _ (by omega), Option.bind_some, Option.bind_some, if_pos rfl]
    exact sizes_loop n (places id m) (places_le _ _) (places id m).length k 0 (by omega) (by have := places_le id m; omega)
end Go.Proofs.Ytjpjhbgdaflmgaa.Pure
