/-
  CrcOpens: what was sealed at any bytes' beginning is opened as the document has it, or nothing is.
  Conditions: none of our own (the text takes at most the model's reach, 2^47 - 4096 bytes).
-/
import Derived.Test.YtippjfgjehfhhaaStCrcOpens
import Derived.Test.YtippjfgjehfhhaaCrcRef2
namespace Go.Proofs.Ytippjfgjehfhhaa.Pure
open Go.RowKit Go.Proofs.Ytippjfgjehfhhaa.PP Go.Proofs.YtippjfgjehfhhaaW.PrintWords Go.Proofs.YtippjfgjehfhhaaW.PrintLast Go.Proofs.YtippjfgjehfhhaaW.PrintMore Go.Proofs.Ytippjfgjehfhhaa.Oct

theorem CrcOpens : palaverlaw08_CrcOpens.Stmt := by
  intro s hs
  suffices h : ∀ k, 140000000 ≤ k → palaverlaw08_CrcOpens.f k s = some true from ⟨_, h 140000000 (Nat.le_refl _)⟩
  intro k hk
  unfold palaverlaw08_CrcOpens.f
  split
  · rw [awake8_eq k (by omega)]
    rfl
  · rw [Open_eq k s (by omega) (by omega), Option.bind_some, RefOpen_eq k s (by omega) hk, Option.bind_some, if_pos rfl, if_pos rfl, if_pos (by simp), awake8_eq k (by omega)]
    rfl
end Go.Proofs.Ytippjfgjehfhhaa.Pure
