/-
  CrcBack: what is sealed is opened as it was, with anything behind it; cut off anywhere it isn't.
  Conditions: none of our own (each text takes at most the model's reach, 2^47 - 4096 bytes).
-/
import Derived.Test.YtippjfgjehfhhaaStCrcBack
import Derived.Test.YtippjfgjehfhhaaCrc
namespace Go.Proofs.Ytippjfgjehfhhaa.Pure
open Go.RowKit Go.Proofs.Ytippjfgjehfhhaa.PP Go.Proofs.YtippjfgjehfhhaaW.PrintWords Go.Proofs.YtippjfgjehfhhaaW.PrintLast Go.Proofs.YtippjfgjehfhhaaW.PrintMore Go.Proofs.Ytippjfgjehfhhaa.Oct

theorem CrcBack : palaverlaw08_CrcBack.Stmt := by
  intro s more at_ hs hm hat
  suffices h : ∀ k, 70000 ≤ k → palaverlaw08_CrcBack.f (k + 2) s more at_ = some true from ⟨_, h 70000 (Nat.le_refl _)⟩
  intro k hk
  unfold palaverlaw08_CrcBack.f
  have aw : palaverlaw08_CrcBack.j0 (k + 2) s more at_ true = some true := by
    rw [palaverlaw08_CrcBack.j0, if_pos rfl, awake8_eq (k + 1) (by omega)]
    rfl
  split
  · exact aw
  · by_cases h : (more.size : Int) > 3000
    · rw [decide_eq_true h]; exact aw
    · have hz := sealed_size s
      rw [decide_eq_false h, palaverlaw08_CrcBack.j0, if_neg (by simp), Sealed_eq (k + 1) s (by omega) (by omega), if_neg (by omega)]
      simp only [Option.bind_some, if_true]
      rw [show (((sealed s).size : Int) == 0) = false from beq_eq_false_iff_ne.2 (by omega), palaverlaw08_CrcBack.j1, if_neg (by simp), if_pos (by omega), Open_eq k _ (by rw [app_size]; omega) (by rw [app_size]; omega), opened_sealed s more (by omega)]
      simp only [Option.bind_some]
      have hw : IntKind.u64.wrap ((sealed s).size : Int) = (sealed s).size := by rw [u64w]; omega
      have ha : 0 ≤ IntKind.u64.wrap at_ := by rw [u64w]; omega
      rw [hw, Int.tmod_eq_emod_of_nonneg ha]
      have h1 := Int.emod_nonneg (IntKind.u64.wrap at_) (b := ((sealed s).size : Int)) (by omega)
      have h2 := Int.emod_lt_of_pos (IntKind.u64.wrap at_) (b := ((sealed s).size : Int)) (by omega)
      generalize IntKind.u64.wrap at_ % ((sealed s).size : Int) = m at h1 h2
      rw [w64 (by omega) (by omega)]
      obtain ⟨m, rfl⟩ := Int.eq_ofNat_of_zero_le h1
      rw [if_neg (by omega), if_pos h1, if_pos (by omega), Int.toNat_natCast, Open_eq k _ (by rw [ByteArray.size_extract]; omega) (by rw [ByteArray.size_extract]; omega)]
      simp only [Option.bind_some]
      rw [if_pos trivial, if_pos trivial, if_pos (by omega), opened_cut s m (by omega) (by omega), if_neg (by simp), awake8_eq k (by omega)]
      rfl
end Go.Proofs.Ytippjfgjehfhhaa.Pure
