/-
  BloomHas: whether any id is probably there in any bits is the document's answer.
  Conditions: none of our own (each text takes at most the model's reach, 2^47 - 4096 bytes).
-/
import Derived.Test.YtjpjhbgdaflmgaaStBloomHas
import Derived.Test.YtjpjhbgdaflmgaaBlo4
namespace Go.Proofs.Ytjpjhbgdaflmgaa.Pure
open Go.RowKit Go.Proofs.Ytjpjhbgdaflmgaa.PP Go.Proofs.YtjpjhbgdaflmgaaW.PrintWords Go.Proofs.YtjpjhbgdaflmgaaW.PrintLast Go.Proofs.YtjpjhbgdaflmgaaW.PrintMore Go.Proofs.Ytjpjhbgdaflmgaa.Oct

theorem BloomHas : palaverlaw14_BloomHas.Stmt := by
  intro bits id hb hi
  suffices h : ∀ k, 30000 ≤ k → palaverlaw14_BloomHas.f k bits id = some true from ⟨_, h 30000 (Nat.le_refl _)⟩
  intro k hk
  unfold palaverlaw14_BloomHas.f
  rw [awake14_eq k (by omega)]
  split
  · rfl
  · split
    · rfl
    · rw [Has_eq k _ _ (by omega) (by omega), rHas_eq k _ _ (by omega) (by omega), Option.bind_some, Option.bind_some, if_pos (by simp)]
      rfl
end Go.Proofs.Ytjpjhbgdaflmgaa.Pure
