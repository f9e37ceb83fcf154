/-
  BloomGrows: with one more id, as long as the size is the same, all bits that were set are.
  Conditions: none of our own (the list of ids, and the id, take at most the model's reach, 2^47 - 4096 bytes each).
-/
import Derived.Test.YtjpjhbgdaflmgaaStBloomGrows
import Derived.Test.YtjpjhbgdaflmgaaBlo4
namespace Go.Proofs.Ytjpjhbgdaflmgaa.Pure
open Go.RowKit Go.Proofs.Ytjpjhbgdaflmgaa.PP Go.Proofs.YtjpjhbgdaflmgaaW.PrintWords Go.Proofs.YtjpjhbgdaflmgaaW.PrintLast Go.Proofs.YtjpjhbgdaflmgaaW.PrintMore Go.Proofs.Ytjpjhbgdaflmgaa.Oct

theorem u8_bv (n : Int) (h0 : 0 ≤ n) (h1 : n < 256) : ((BitVec.ofInt 8 n).toNat : Int) = n := by
  rw [BitVec.toNat_ofInt]
  omega
/-- Eight bits as a word. -/
def word (b0 b1 b2 b3 b4 b5 b6 b7 : Bool) : BitVec 8 := BitVec.ofBoolListLE [b0, b1, b2, b3, b4, b5, b6, b7]
theorem enc_word : ∀ (b0 b1 b2 b3 b4 b5 b6 b7 : Bool), BitVec.ofInt 8 (enc b0 b1 b2 b3 b4 b5 b6 b7) = word b0 b1 b2 b3 b4 b5 b6 b7 := by decide +kernel
theorem word_and (a0 a1 a2 a3 a4 a5 a6 a7 b0 b1 b2 b3 b4 b5 b6 b7 : Bool) : word a0 a1 a2 a3 a4 a5 a6 a7 &&& word b0 b1 b2 b3 b4 b5 b6 b7 = word (a0 && b0) (a1 && b1) (a2 && b2) (a3 && b3) (a4 && b4) (a5 && b5) (a6 && b6) (a7 && b7) := by
  unfold word
  apply BitVec.eq_of_getLsbD_eq
  intro i hi
  rw [BitVec.getLsbD_and, BitVec.getLsbD_ofBoolListLE, BitVec.getLsbD_ofBoolListLE, BitVec.getLsbD_ofBoolListLE]
  match i, hi with
  | 0, _ => rfl
  | 1, _ => rfl
  | 2, _ => rfl
  | 3, _ => rfl
  | 4, _ => rfl
  | 5, _ => rfl
  | 6, _ => rfl
  | 7, _ => rfl
theorem byte_sub (S S' : Nat → Bool) (j : Nat) (h : ∀ q, S q = true → S' q = true) : Go.bits .and .u8 (Oct.byteOf S j) (Oct.byteOf S' j) = Oct.byteOf S j := by
  have hr := byteOf_range S j
  have e : (BitVec.ofInt 8 (Oct.byteOf S j) &&& BitVec.ofInt 8 (Oct.byteOf S' j) : BitVec 8) = BitVec.ofInt 8 (Oct.byteOf S j) := by
    unfold Oct.byteOf
    rw [enc_word, enc_word, word_and]
    have c : ∀ q, (S q && S' q) = S q := fun q => by
      have := h q
      cases hq : S q
      · rfl
      · rw [this hq]; rfl
    rw [c, c, c, c, c, c, c, c]
  show IntKind.u8.wrap ((BitVec.ofInt 8 (Oct.byteOf S j) &&& BitVec.ofInt 8 (Oct.byteOf S' j) : BitVec 8).toNat : Int) = Oct.byteOf S j
  rw [e, u8_bv _ hr.1 hr.2, IntKind.wrap_u8]
  omega
theorem grows_loop (ids : List ByteArray) (id : ByteArray) : ∀ (d k i : Nat), i + d = (made ids).size → 2 * d + 600 < k → palaverlaw14_BloomGrows.l0 k (made ids) (made (ids ++ [id])) (i : Int) = some true
  | 0, k, i, hi, hk => by
    obtain ⟨k, rfl⟩ : ∃ q, k = q + 2 := ⟨k - 2, by omega⟩
    rw [palaverlaw14_BloomGrows.l0, if_neg (by omega), palaverlaw14_BloomGrows.j2, if_neg (by simp), awake14_eq k (by omega)]
    rfl
  | d + 1, k, i, hi, hk => by
    obtain ⟨k, rfl⟩ : ∃ q, k = q + 2 := ⟨k - 2, by omega⟩
    rw [palaverlaw14_BloomGrows.l0, if_pos (by omega)]
    by_cases he : (made ids).size = (made (ids ++ [id])).size
    · have hz1 := made_size ids
      have hz2 := made_size (ids ++ [id])
      have s1 := sz_cases (rights ids).length
      have s2 := sz_cases (rights (ids ++ [id])).length
      have es : sz (rights (ids ++ [id])).length = sz (rights ids).length := by omega
      have hb : Go.bits .and .u8 (bt (made ids) (i : Int)) (bt (made (ids ++ [id])) (i : Int)) = bt (made ids) (i : Int) := by
        rw [bt_made ids i (by omega), bt_made (ids ++ [id]) i (by omega), es]
        refine byte_sub _ _ _ fun q hq => ?_
        unfold isSet at hq ⊢
        rw [List.any_append, hq, Bool.true_or]
      rw [show (((made ids).size : Int) == ((made (ids ++ [id])).size : Int)) = true from beq_iff_eq.2 (by omega), palaverlaw14_BloomGrows.j2, if_pos rfl, if_pos (by omega), if_pos (by omega), if_pos (by omega), hb, if_pos rfl, w64 (n := (i : Int) + 1) (by omega) (by omega), show ((i : Int) + 1) = ((i + 1 : Nat) : Int) by omega]
      exact grows_loop ids id d k (i + 1) (by omega) (by omega)
    · rw [show (((made ids).size : Int) == ((made (ids ++ [id])).size : Int)) = false from beq_eq_false_iff_ne.2 (by omega), palaverlaw14_BloomGrows.j2, if_neg (by simp), awake14_eq k (by omega)]
      rfl
theorem BloomGrows : palaverlaw14_BloomGrows.Stmt := by
  intro ids id hids hid
  suffices h : ∀ k, 50000 ≤ k → palaverlaw14_BloomGrows.f (k + 1) ids id = some true from ⟨_, h 50000 (Nat.le_refl _)⟩
  intro k hk
  unfold palaverlaw14_BloomGrows.f
  have aw : palaverlaw14_BloomGrows.j0 (k + 1) ids id true = some true := by
    rw [palaverlaw14_BloomGrows.j0, if_pos rfl, awake14_eq k (by omega)]
    rfl
  rcases great_eq (k + 1) ids (by omega) with h | ⟨hl, h⟩
  · rw [h, Option.bind_some, if_pos rfl, aw]
  · rw [h, Option.bind_some, if_neg (by simp)]
    by_cases hb : (id.size : Int) > 300
    · rw [decide_eq_true hb, aw]
    · have hz := made_size ids
      have hs := sz_cases (rights ids).length
      rw [decide_eq_false hb, palaverlaw14_BloomGrows.j0, if_neg (by simp), Make_eq k ids (by omega) (by omega), Option.bind_some, Option.bind_some, if_pos (by simp; omega), Option.bind_some, if_pos (by simp; omega), List.nil_append, Make_eq k (ids ++ [id]) (by simp; omega) (by simp; omega), Option.bind_some]
      exact grows_loop ids id (made ids).size k 0 (by omega) (by omega)
end Go.Proofs.Ytjpjhbgdaflmgaa.Pure
