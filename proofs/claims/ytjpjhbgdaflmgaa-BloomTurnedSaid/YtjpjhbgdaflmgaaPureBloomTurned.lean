/-
  BloomTurned: the order of ids, and an id that stands there twice as long as the size is the same, count for nothing.
  Conditions: none of our own (the list of ids takes at most the model's reach, 2^47 - 4096 bytes).
-/
import Derived.Test.YtjpjhbgdaflmgaaStBloomTurned
import Derived.Test.YtjpjhbgdaflmgaaBlo4
namespace Go.Proofs.Ytjpjhbgdaflmgaa.Pure
open Go.RowKit Go.Proofs.Ytjpjhbgdaflmgaa.PP Go.Proofs.YtjpjhbgdaflmgaaW.PrintWords Go.Proofs.YtjpjhbgdaflmgaaW.PrintLast Go.Proofs.YtjpjhbgdaflmgaaW.PrintMore Go.Proofs.Ytjpjhbgdaflmgaa.Oct

theorem isSet_ext {a b : List ByteArray} (h : ∀ id, id ∈ a ↔ id ∈ b) (m : Int) : isSet a m = isSet b m := by
  funext q
  rw [Bool.eq_iff_iff]
  unfold isSet
  rw [List.any_eq_true, List.any_eq_true]
  constructor
  · rintro ⟨id, hi, hp⟩; exact ⟨id, (h id).1 hi, hp⟩
  · rintro ⟨id, hi, hp⟩; exact ⟨id, (h id).2 hi, hp⟩
theorem made_ext {a b : List ByteArray} (h : ∀ id, id ∈ a ↔ id ∈ b) (hs : sz (rights a).length = sz (rights b).length) : made a = made b := by
  rw [made_eq, made_eq, hs, isSet_ext h]
theorem mem_turned (l : List ByteArray) (m : Nat) (id : ByteArray) : id ∈ l.drop m ++ l.take m ↔ id ∈ l := by
  rw [List.mem_append]
  conv => rhs; rw [← List.take_append_drop m l, List.mem_append]
  exact Or.comm
theorem rights_turned (l : List ByteArray) (m : Nat) : (rights (l.drop m ++ l.take m)).length = (rights l).length := by
  conv => rhs; rw [← List.take_append_drop m l]
  unfold rights
  rw [List.filter_append, List.filter_append, List.length_append, List.length_append, Nat.add_comm]
theorem BloomTurned : palaverlaw14_BloomTurned.Stmt := by
  intro ids by_ hids hby
  suffices h : ∀ k, 50000 ≤ k → palaverlaw14_BloomTurned.f (k + 1) ids by_ = some true from ⟨_, h 50000 (Nat.le_refl _)⟩
  intro k hk
  unfold palaverlaw14_BloomTurned.f
  have aw : palaverlaw14_BloomTurned.j0 (k + 1) ids by_ true = some true := by
    rw [palaverlaw14_BloomTurned.j0, if_pos rfl, awake14_eq k (by omega)]
    rfl
  rcases great_eq (k + 1) ids (by omega) with h | ⟨hl, h⟩
  · rw [h, Option.bind_some, if_pos rfl, aw]
  · rw [h, Option.bind_some, if_neg (by simp)]
    by_cases h0 : (ids.length : Int) = 0
    · rw [show ((ids.length : Int) == 0) = true from beq_iff_eq.2 h0, aw]
    · rw [show ((ids.length : Int) == 0) = false from beq_eq_false_iff_ne.2 h0, palaverlaw14_BloomTurned.j0, if_neg (by simp)]
      have hw : IntKind.u64.wrap (ids.length : Int) = ids.length := by rw [u64w]; omega
      have ha : 0 ≤ IntKind.u64.wrap by_ := by rw [u64w]; omega
      rw [hw, Int.tmod_eq_emod_of_nonneg ha]
      have h1 := Int.emod_nonneg (IntKind.u64.wrap by_) (b := (ids.length : Int)) (by omega)
      have h2 := Int.emod_lt_of_pos (IntKind.u64.wrap by_) (b := (ids.length : Int)) (by omega)
      generalize IntKind.u64.wrap by_ % (ids.length : Int) = m at h1 h2
      rw [w64 (by omega) (by omega)]
      obtain ⟨m, rfl⟩ := Int.eq_ofNat_of_zero_le h1
      rw [if_neg h0, Option.bind_some, if_pos h1, if_pos (by omega), Int.toNat_natCast, if_pos (by simp; omega), Option.bind_some, List.nil_append, if_pos (by simp; omega), Option.bind_some]
      have hlen : (ids.drop m ++ ids.take m).length = ids.length := by simp; omega
      have hm : m < ids.length := by omega
      have e1 : made (ids.drop m ++ ids.take m) = made ids := made_ext (mem_turned ids m) (by rw [rights_turned])
      rw [Make_eq k (ids.drop m ++ ids.take m) (by omega) (by omega), Option.bind_some, Make_eq k ids (by omega) (by omega), Option.bind_some, e1, if_pos rfl, if_pos (by omega), if_pos (by omega), rdOf_get ids m hm, Option.bind_some]
      have hlen2 : (ids.drop m ++ ids.take m ++ [ids[m]]).length = ids.length + 1 := by rw [List.length_append, hlen]; rfl
      rw [Make_eq k (ids.drop m ++ ids.take m ++ [ids[m]]) (by omega) (by omega), Option.bind_some, Option.bind_some]
      split
      · rename_i hz
        have z1 := made_size (ids.drop m ++ ids.take m ++ [ids[m]])
        have z2 := made_size ids
        have s1 := sz_cases (rights (ids.drop m ++ ids.take m ++ [ids[m]])).length
        have s2 := sz_cases (rights ids).length
        have e2 : made (ids.drop m ++ ids.take m ++ [ids[m]]) = made ids := made_ext (fun id => by
          rw [List.mem_append, mem_turned]
          constructor
          · rintro (h | h)
            · exact h
            · simp at h; rw [h]; exact List.getElem_mem hm
          · exact fun h => .inl h) (by omega)
        rw [Option.bind_some, Option.bind_some, e2, if_pos rfl, awake14_eq k (by omega)]
        rfl
      · rw [awake14_eq k (by omega)]
        rfl
end Go.Proofs.Ytjpjhbgdaflmgaa.Pure
