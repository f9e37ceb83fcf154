import Derived.Test.YtjpjhbgdaflmgaaBlo
import Derived.Test.YtjpjhbgdaflmgaaPPx1
import Derived.Test.YtjpjhbgdaflmgaaPPx3
/-! bloom: places; bits as numbers. -/
namespace Go.Proofs.Ytjpjhbgdaflmgaa.Oct
open Go.RowKit Go.Proofs.Ytjpjhbgdaflmgaa.PP Go.Proofs.YtjpjhbgdaflmgaaW.PrintWords Go.Proofs.YtjpjhbgdaflmgaaW.PrintLast Go.Proofs.YtjpjhbgdaflmgaaW.PrintMore
set_option linter.unusedSimpArgs false
set_option linter.unusedVariables false

theorem Places_step (k : Nat) (m a b i : Int) (l : List Int) (hi : i < 4) (hi0 : 0 ≤ i) (hm : 1 ≤ m) (hl : l.length < 10) (ha : 0 ≤ a) (ha2 : a < 4294967296) (hb : 0 ≤ b) (hb2 : b ≤ 4294967296) :
    bloom_Places.l0 (k + 1) m a b l i = bloom_Places.l0 k m a b (l ++ [(a + i * b) % m]) (i + 1) := by
  have h1 : i * b ≤ 3 * 4294967296 := by
    have : i * b ≤ 3 * b := Int.mul_le_mul_of_nonneg_right (by omega) hb
    omega
  have h0 : 0 ≤ i * b := Int.mul_nonneg hi0 hb
  rw [bloom_Places.l0, if_pos hi, if_neg (by omega), if_pos (by omega), w64 (n := i * b) (by omega) (by omega), w64 (n := a + i * b) (by omega) (by omega), w64 (n := i + 1) (by omega) (by omega), Int.tmod_eq_emod_of_nonneg (by omega)]
theorem odd_bounds (b : Int) (h0 : 0 ≤ b) (h1 : b < 4294967296) : 0 ≤ odd b ∧ odd b ≤ 4294967296 := by
  unfold odd
  split <;> omega
theorem Places_none (k : Nat) (id : ByteArray) (m : Int) : bloom_Places.j0 (k + 1) id m true = some [] := by simp [bloom_Places.j0]
theorem Places_eq (k : Nat) (id : ByteArray) (m : Int) (hk : 20 ≤ k) : bloom_Places.f k id m = some (places id m) := by
  obtain ⟨k, rfl⟩ : ∃ q, k = q + 1 := ⟨k - 1, by omega⟩
  unfold bloom_Places.f places
  by_cases h32 : id.size = 32
  · rw [if_pos (by omega)]
    by_cases hm : m < 1
    · rw [if_pos hm, Places_none, if_neg (by omega)]
    rw [if_neg hm]
    by_cases hm2 : m > 4096
    · rw [decide_eq_true hm2, Places_none, if_neg (by omega)]
    rw [decide_eq_false hm2, if_pos ⟨h32, by omega, by omega⟩, bloom_Places.j0, if_neg (by simp), octets_Read.f, Option.bind_some]
    dsimp only
    have t1 := take_ok id 4 (by omega) (by omega)
    have t2 := take_ok (id.extract (4 : Int).toNat id.size) 4 (by omega) (by simp only [ByteArray.size_extract]; simp; omega)
    have e2 : (id.extract (4 : Int).toNat id.size).extract 0 (4 : Int).toNat = id.extract 4 8 := by
      apply ba_ext
      rw [ext_data, ext_data, ext_data]
      simp only [List.drop_zero]
      rw [show (4 : Int).toNat = 4 from rfl, List.take_of_length_le (l := id.data.toList) (i := id.size) (by rw [size_len]; omega), List.take_drop]
    rw [rLong_eq k _ _ (by omega), Option.bind_some, t1]
    dsimp only
    rw [rLong_eq k _ _ (by omega), Option.bind_some, t2]
    dsimp only
    rw [e2, show (4 : Int).toNat = 4 from rfl]
    have ha := bv_four_lt (id.extract 0 4) (by simp only [ByteArray.size_extract]; omega)
    have hb := bv_four_lt (id.extract 4 8) (by simp only [ByteArray.size_extract]; omega)
    rw [or_one _ hb.1 hb.2]
    have ho := odd_bounds _ hb.1 hb.2
    generalize odd (bv 0 (bytesOf (id.extract 4 8))) = b at *
    generalize bv 0 (bytesOf (id.extract 0 4)) = a at *
    obtain ⟨k, rfl⟩ : ∃ q, k = q + 5 := ⟨k - 5, by omega⟩
    rw [Places_step _ _ _ _ _ _ (by omega) (by omega) (by omega) (by simp) ha.1 ha.2 ho.1 ho.2, Places_step _ _ _ _ _ _ (by omega) (by omega) (by omega) (by simp) ha.1 ha.2 ho.1 ho.2, Places_step _ _ _ _ _ _ (by omega) (by omega) (by omega) (by simp) ha.1 ha.2 ho.1 ho.2, Places_step _ _ _ _ _ _ (by omega) (by omega) (by omega) (by simp) ha.1 ha.2 ho.1 ho.2, bloom_Places.l0, if_neg (by omega)]
    simp
  · rw [if_neg (by omega), Places_none, if_neg (by omega)]
theorem rPlaces_none (k : Nat) (id : ByteArray) (m : Int) : palaverref14_Places.j0 (k + 1) id m true = some [] := by simp [palaverref14_Places.j0]
theorem rPlaces_eq (k : Nat) (id : ByteArray) (m : Int) (hk : 20 ≤ k) : palaverref14_Places.f k id m = some (places id m) := by
  obtain ⟨k, rfl⟩ : ∃ q, k = q + 1 := ⟨k - 1, by omega⟩
  unfold palaverref14_Places.f places
  by_cases h32 : id.size = 32
  · rw [if_pos (by omega)]
    by_cases hm : m < 1
    · rw [if_pos hm, rPlaces_none, if_neg (by omega)]
    rw [if_neg hm]
    by_cases hm2 : m > 4096
    · rw [decide_eq_true hm2, rPlaces_none, if_neg (by omega)]
    have s1 : (id.extract 0 4).size = 4 := by simp only [ByteArray.size_extract]; omega
    have s2 : (id.extract 4 8).size = 4 := by simp only [ByteArray.size_extract]; omega
    rw [decide_eq_false hm2, if_pos ⟨h32, by omega, by omega⟩, palaverref14_Places.j0, if_neg (by simp), if_pos (by omega), if_pos (by omega), value_eq k _ (by omega) (by omega), Option.bind_some, if_pos (by omega), if_pos (by omega), value_eq k _ (by omega) (by omega), Option.bind_some]
    have ha := bv_four_lt _ s1
    have hb := bv_four_lt _ s2
    have ho := odd_bounds _ hb.1 hb.2
    dsimp only
    have hq : Int.tmod (bv 0 (bytesOf (id.extract 4 8))) 2 = (bv 0 (bytesOf (id.extract 4 8))) % 2 := Int.tmod_eq_emod_of_nonneg hb.1
    rw [hq]
    unfold odd at ho ⊢
    generalize bv 0 (bytesOf (id.extract 4 8)) = b at *
    generalize bv 0 (bytesOf (id.extract 0 4)) = a at *
    split
    · rw [if_neg (by omega), w64 (n := b + 1) (by omega) (by omega), w64 (n := 2 * (b + 1)) (by omega) (by omega), w64 (n := 3 * (b + 1)) (by omega) (by omega), w64 (n := a + (b + 1)) (by omega) (by omega), w64 (n := a + 2 * (b + 1)) (by omega) (by omega), w64 (n := a + 3 * (b + 1)) (by omega) (by omega)]
      rw [Int.tmod_eq_emod_of_nonneg ha.1, Int.tmod_eq_emod_of_nonneg (by omega), Int.tmod_eq_emod_of_nonneg (by omega), Int.tmod_eq_emod_of_nonneg (by omega)]
    · rw [if_neg (by omega), w64 (n := 2 * b) (by omega) (by omega), w64 (n := 3 * b) (by omega) (by omega), w64 (n := a + b) (by omega) (by omega), w64 (n := a + 2 * b) (by omega) (by omega), w64 (n := a + 3 * b) (by omega) (by omega)]
      rw [Int.tmod_eq_emod_of_nonneg ha.1, Int.tmod_eq_emod_of_nonneg (by omega), Int.tmod_eq_emod_of_nonneg (by omega), Int.tmod_eq_emod_of_nonneg (by omega)]
  · rw [if_neg (by omega), rPlaces_none, if_neg (by omega)]
theorem places_mem (id : ByteArray) (m p : Int) (h : p ∈ places id m) : 0 ≤ p ∧ p < m ∧ 1 ≤ m := by
  unfold places at h
  split at h
  · rename_i hm
    have e : ∀ x : Int, 0 ≤ x % m ∧ x % m < m := fun x => ⟨Int.emod_nonneg _ (by omega), Int.emod_lt_of_pos _ (by omega)⟩
    simp only [List.mem_cons, List.not_mem_nil, or_false] at h
    rcases h with rfl | rfl | rfl | rfl <;> exact ⟨(e _).1, (e _).2, hm.2.1⟩
  · simp at h
theorem places_length (id : ByteArray) (m : Int) : (places id m).length = if id.size = 32 ∧ 1 ≤ m ∧ m ≤ 4096 then 4 else 0 := by
  unfold places
  split <;> simp

/-! eight bits as a number -/
def bn (b : Bool) : Int := if b then 1 else 0
def enc (b0 b1 b2 b3 b4 b5 b6 b7 : Bool) : Int := bn b0 + 2 * bn b1 + 4 * bn b2 + 8 * bn b3 + 16 * bn b4 + 32 * bn b5 + 64 * bn b6 + 128 * bn b7
/-- Byte j of a set of bits. -/
def byteOf (S : Nat → Bool) (j : Nat) : Int := enc (S (8 * j)) (S (8 * j + 1)) (S (8 * j + 2)) (S (8 * j + 3)) (S (8 * j + 4)) (S (8 * j + 5)) (S (8 * j + 6)) (S (8 * j + 7))
theorem enc_or : ∀ (b0 b1 b2 b3 b4 b5 b6 b7 : Bool) (i : Fin 8), Go.bits .or .u8 (enc b0 b1 b2 b3 b4 b5 b6 b7) (shl .u8 1 (i : Nat)) = enc (b0 || i == 0) (b1 || i == 1) (b2 || i == 2) (b3 || i == 3) (b4 || i == 4) (b5 || i == 5) (b6 || i == 6) (b7 || i == 7) := by decide +kernel
theorem enc_add : ∀ (b0 b1 b2 b3 b4 b5 b6 b7 : Bool) (i : Fin 8), (match i with | 0 => b0 | 1 => b1 | 2 => b2 | 3 => b3 | 4 => b4 | 5 => b5 | 6 => b6 | 7 => b7) = false → (enc b0 b1 b2 b3 b4 b5 b6 b7 + shl .u8 1 (i : Nat)) % 256 = enc (b0 || i == 0) (b1 || i == 1) (b2 || i == 2) (b3 || i == 3) (b4 || i == 4) (b5 || i == 5) (b6 || i == 6) (b7 || i == 7) := by decide +kernel
theorem enc_bit : ∀ (b0 b1 b2 b3 b4 b5 b6 b7 : Bool) (i : Fin 8), shr .u8 (enc b0 b1 b2 b3 b4 b5 b6 b7) (i : Nat) % 2 = bn (match i with | 0 => b0 | 1 => b1 | 2 => b2 | 3 => b3 | 4 => b4 | 5 => b5 | 6 => b6 | 7 => b7) := by decide +kernel
theorem enc_range : ∀ (b0 b1 b2 b3 b4 b5 b6 b7 : Bool), 0 ≤ enc b0 b1 b2 b3 b4 b5 b6 b7 ∧ enc b0 b1 b2 b3 b4 b5 b6 b7 < 256 := by decide +kernel
end Go.Proofs.Ytjpjhbgdaflmgaa.Oct
