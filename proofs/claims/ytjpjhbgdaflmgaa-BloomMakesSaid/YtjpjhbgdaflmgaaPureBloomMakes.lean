/-
  BloomMakes: the bits of any ids are the document's.
  Conditions: none of our own (the list of ids takes at most the model's reach, 2^47 - 4096 bytes).
-/
import Derived.Test.YtjpjhbgdaflmgaaStBloomMakes
import Derived.Test.YtjpjhbgdaflmgaaBlo5
namespace Go.Proofs.Ytjpjhbgdaflmgaa.Pure
open Go.RowKit Go.Proofs.Ytjpjhbgdaflmgaa.PP Go.Proofs.YtjpjhbgdaflmgaaW.PrintWords Go.Proofs.YtjpjhbgdaflmgaaW.PrintLast Go.Proofs.YtjpjhbgdaflmgaaW.PrintMore Go.Proofs.Ytjpjhbgdaflmgaa.Oct

theorem BloomMakes : palaverlaw14_BloomMakes.Stmt := by
  intro ids hids
  suffices h : ∀ k, 50000 ≤ k → palaverlaw14_BloomMakes.f k ids = some true from ⟨_, h 50000 (Nat.le_refl _)⟩
  intro k hk
  unfold palaverlaw14_BloomMakes.f
  rw [awake14_eq k (by omega)]
  rcases great_eq k ids (by omega) with h | ⟨hl, h⟩
  · rw [h, Option.bind_some, if_pos rfl]; rfl
  · rw [h, Option.bind_some, if_neg (by simp), Make_eq k ids (by omega) (by omega), Option.bind_some, rMake_eq k ids (by omega) (by omega), Option.bind_some, if_pos rfl]
    rfl
end Go.Proofs.Ytjpjhbgdaflmgaa.Pure
