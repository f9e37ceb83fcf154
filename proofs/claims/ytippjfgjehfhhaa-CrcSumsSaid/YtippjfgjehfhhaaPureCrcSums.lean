/-
  CrcSums: the sum of any bytes, and of any bytes behind bytes of any sum, is the document's.
  Conditions: none of our own (the text takes at most the model's reach, 2^47 - 4096 bytes).
-/
import Derived.Test.YtippjfgjehfhhaaStCrcSums
import Derived.Test.YtippjfgjehfhhaaCrcRef
namespace Go.Proofs.Ytippjfgjehfhhaa.Pure
open Go.RowKit Go.Proofs.Ytippjfgjehfhhaa.PP Go.Proofs.YtippjfgjehfhhaaW.PrintWords Go.Proofs.YtippjfgjehfhhaaW.PrintLast Go.Proofs.YtippjfgjehfhhaaW.PrintMore Go.Proofs.Ytippjfgjehfhhaa.Oct

theorem CrcSums : palaverlaw08_CrcSums.Stmt := by
  intro s c hs hc
  suffices h : ∀ k, 7000000 ≤ k → palaverlaw08_CrcSums.f k s c = some true from ⟨_, h 7000000 (Nat.le_refl _)⟩
  intro k hk
  unfold palaverlaw08_CrcSums.f
  split
  · rw [awake8_eq k (by omega)]
    rfl
  · have hc2 : 0 ≤ c ∧ c < 4294967296 := by
      have h0 : IntKind.u32.min = 0 := rfl
      have h1 : IntKind.u32.max = 4294967295 := rfl
      simp [Lit.wf] at hc
      omega
    obtain ⟨n, rfl⟩ := Int.eq_ofNat_of_zero_le hc2.1
    have e : (n : Int) = ((BitVec.ofNat 32 n : W32).toNat : Int) := by rw [BitVec.toNat_ofNat]; omega
    have hz : ∀ k, 7000000 ≤ k → palaverref08_More.f k 0 s = some ((sum s).toNat : Int) := fun k hk => RefMore_eq k 0#32 s (by omega) (by omega)
    rw [Sum_eq k s (by omega) (by omega), Option.bind_some, hz k hk, Option.bind_some, if_pos rfl, e, More_eq k _ s (by omega) (by omega), Option.bind_some, RefMore_eq k _ s (by omega) (by omega), Option.bind_some, if_pos rfl, awake8_eq k (by omega)]
    rfl
end Go.Proofs.Ytippjfgjehfhhaa.Pure
