/-
  CrcSeals: any bytes sealed as the document has it, or that they are too many.
  Conditions: none of our own (the text takes at most the model's reach, 2^47 - 4096 bytes).
-/
import Derived.Test.YtippjfgjehfhhaaStCrcSeals
import Derived.Test.YtippjfgjehfhhaaCrcRef2
namespace Go.Proofs.Ytippjfgjehfhhaa.Pure
open Go.RowKit Go.Proofs.Ytippjfgjehfhhaa.PP Go.Proofs.YtippjfgjehfhhaaW.PrintWords Go.Proofs.YtippjfgjehfhhaaW.PrintLast Go.Proofs.YtippjfgjehfhhaaW.PrintMore Go.Proofs.Ytippjfgjehfhhaa.Oct

theorem CrcSeals : palaverlaw08_CrcSeals.Stmt := by
  intro s hs
  suffices h : ∀ k, 7000000 + 10 * s.size ≤ k → palaverlaw08_CrcSeals.f (k + 1) s = some true from ⟨_, h (7000000 + 10 * s.size) (Nat.le_refl _)⟩
  intro k hk
  unfold palaverlaw08_CrcSeals.f
  have go : palaverlaw08_CrcSeals.j0 (k + 1) s false = some true ∨ ((s.size : Int) > 3000 ∧ (s.size : Int) ≤ 65535) := by
    by_cases h1 : (s.size : Int) > 3000 ∧ (s.size : Int) ≤ 65535
    · exact .inr h1
    · refine .inl ?_
      rw [palaverlaw08_CrcSeals.j0, if_neg (by decide), Sealed_eq k s (by omega) (by omega)]
      by_cases h2 : (s.size : Int) > 65535
      · rw [if_pos h2, Option.bind_some, if_pos h2]
        dsimp only
        rw [if_pos (show (⟨#[]⟩ : ByteArray).toList = ([] : List UInt8) by decide +kernel), if_neg (by decide), awake8_eq k (by omega)]
        rfl
      · rw [if_neg h2, Option.bind_some, if_neg h2]
        dsimp only
        rw [if_pos rfl, RefSealed_eq k s (by omega) (by omega), Option.bind_some, if_pos rfl, awake8_eq k (by omega)]
        rfl
  split
  · rename_i h
    by_cases h2 : (s.size : Int) ≤ 65535
    · rw [decide_eq_true h2, palaverlaw08_CrcSeals.j0, if_pos rfl, awake8_eq k (by omega)]
      rfl
    · rw [decide_eq_false h2]
      rcases go with g | g
      · exact g
      · omega
  · rcases go with g | g
    · exact g
    · omega
end Go.Proofs.Ytippjfgjehfhhaa.Pure
