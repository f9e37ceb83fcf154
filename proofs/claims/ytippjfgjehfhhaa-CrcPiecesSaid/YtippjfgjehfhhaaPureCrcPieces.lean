/-
  CrcPieces: for any two pieces of bytes, the sum of both is the second one's behind the first one's sum.
  Conditions: none of our own (each piece takes at most the model's reach, 2^47 - 4096 bytes).
-/
import Derived.Test.YtippjfgjehfhhaaStCrcPieces
import Derived.Test.YtippjfgjehfhhaaCrc
namespace Go.Proofs.Ytippjfgjehfhhaa.Pure
open Go.RowKit Go.Proofs.Ytippjfgjehfhhaa.PP Go.Proofs.YtippjfgjehfhhaaW.PrintWords Go.Proofs.YtippjfgjehfhhaaW.PrintLast Go.Proofs.YtippjfgjehfhhaaW.PrintMore Go.Proofs.Ytippjfgjehfhhaa.Oct

theorem CrcPieces : palaverlaw08_CrcPieces.Stmt := by
  intro a b ha hb
  suffices h : ∀ k, 70000 ≤ k → palaverlaw08_CrcPieces.f (k + 1) a b = some true from ⟨_, h 70000 (Nat.le_refl _)⟩
  intro k hk
  unfold palaverlaw08_CrcPieces.f
  have aw : palaverlaw08_CrcPieces.j0 (k + 1) a b true = some true := by
    rw [palaverlaw08_CrcPieces.j0, if_pos rfl, awake8_eq k (by omega)]
    rfl
  split
  · exact aw
  · by_cases h : (b.size : Int) > 3000
    · rw [decide_eq_true h]; exact aw
    · rw [decide_eq_false h, palaverlaw08_CrcPieces.j0, if_neg (by simp), Sum_eq k a (by omega) (by omega)]
      simp only [Option.bind_some]
      rw [More_eq k _ b (by omega) (by omega)]
      simp only [Option.bind_some]
      rw [if_pos (by omega), Sum_eq k (a ++ b) (by rw [app_size]; omega) (by rw [app_size]; omega)]
      simp only [Option.bind_some]
      have e : more (sum a) b = sum (a ++ b) := more_app 0#32 a b
      rw [e, if_pos rfl, awake8_eq k (by omega)]
      rfl
end Go.Proofs.Ytippjfgjehfhhaa.Pure
