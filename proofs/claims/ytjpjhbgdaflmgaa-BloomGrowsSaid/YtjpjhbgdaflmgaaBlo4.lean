import Derived.Test.YtjpjhbgdaflmgaaBlo3
import Derived.Test.YtjpjhbgdaflmgaaPPx2
import Derived.Test.YtjpjhbgdaflmgaaPPx4
import Derived.Test.YtjpjhbgdaflmgaaPPx6
/-! bloom: what is there; the document's examples. -/
namespace Go.Proofs.Ytjpjhbgdaflmgaa.Oct
open Go.RowKit Go.Proofs.Ytjpjhbgdaflmgaa.PP Go.Proofs.YtjpjhbgdaflmgaaW.PrintWords Go.Proofs.YtjpjhbgdaflmgaaW.PrintLast Go.Proofs.YtjpjhbgdaflmgaaW.PrintMore
set_option linter.unusedSimpArgs false
set_option linter.unusedVariables false

/-- One bit of bytes. -/
def bitAt (s : ByteArray) (p : Int) : Int := shr .u8 (bt s (p / 8)) (p % 8) % 2
theorem shr_range (s : ByteArray) (i q : Int) : 0 ≤ shr .u8 (bt s i) q ∧ shr .u8 (bt s i) q < 256 := by
  have h := bt_range s i
  unfold shr
  have hp : (1 : Int) ≤ 2 ^ min q.toNat IntKind.u8.bits := by
    have : (0 : Int) < 2 ^ min q.toNat IntKind.u8.bits := Int.pow_pos (by omega)
    omega
  constructor
  · exact Int.ediv_nonneg h.1 (by omega)
  · have : bt s i / 2 ^ min q.toNat IntKind.u8.bits ≤ bt s i := Int.ediv_le_self _ h.1
    omega
theorem and_one (x : Int) (h0 : 0 ≤ x) (h1 : x < 256) : Go.bits .and .u8 x 1 = x % 2 := bits_mask .u8 8 (by decide) wraps_u8 1 (by decide) x h0 h1
def hasAll (s : ByteArray) (l : List Int) : Bool := l.all (fun p => bitAt s p != 0)
theorem hasAll_cons (s : ByteArray) (p : Int) (l : List Int) : hasAll s (p :: l) = (bitAt s p != 0 && hasAll s l) := rfl
theorem Has_loop (s : ByteArray) (l : List Int) (hs : s.size ≤ 512) (hl : ∀ p ∈ l, 0 ≤ p ∧ p < 8 * s.size) (hlen : l.length ≤ 4) :
    ∀ (d k i : Nat), i + d = l.length → d < k → bloom_Has.l0 k s l l (l.length : Int) (i : Int) = some (hasAll s (l.drop i) && decide ((l.length : Int) > 0))
  | 0, k, i, hi, hk => by
    obtain ⟨k, rfl⟩ : ∃ q, k = q + 1 := ⟨k - 1, by omega⟩
    rw [bloom_Has.l0, if_neg (by omega), List.drop_of_length_le (by omega)]
    simp [hasAll]
  | d + 1, k, i, hi, hk => by
    obtain ⟨k, rfl⟩ : ∃ q, k = q + 1 := ⟨k - 1, by omega⟩
    have hil : i < l.length := by omega
    have hp := hl l[i] (List.getElem_mem hil)
    have hr : rd l (i : Int) = l[i] := by simp [rd, List.getD_eq_getElem?_getD, List.getElem?_eq_getElem hil]
    have e1 : wrap64 (Int.tdiv l[i] 8) = l[i] / 8 := by rw [Int.tdiv_eq_ediv_of_nonneg hp.1, w64 (by omega) (by omega)]
    have e2 : Int.tmod l[i] 8 = l[i] % 8 := Int.tmod_eq_emod_of_nonneg hp.1
    have hsr := shr_range s (l[i] / 8) (l[i] % 8)
    rw [bloom_Has.l0, if_pos (by omega), if_pos (by omega), if_pos (by omega), hr, e1, e2, if_pos (by omega), if_pos (by omega), if_pos (by omega), and_one _ hsr.1 hsr.2, w64 (n := (i : Int) + 1) (by omega) (by omega), show ((i : Int) + 1) = ((i + 1 : Nat) : Int) by omega, Has_loop s l hs hl hlen d k (i + 1) (by omega) (by omega), List.drop_eq_getElem_cons hil]
    show (if bitAt s l[i] = 0 then _ else _) = _
    rw [hasAll_cons]
    by_cases h : bitAt s l[i] = 0
    · rw [if_pos h, show (bitAt s l[i] != 0) = false by simp [h]]
      rfl
    · rw [if_neg h, show (bitAt s l[i] != 0) = true by simp [h]]
      rfl
theorem rHas_loop (s : ByteArray) (l : List Int) (hs : s.size ≤ 512) (hl : ∀ p ∈ l, 0 ≤ p ∧ p < 8 * s.size) (hlen : l.length ≤ 4) :
    ∀ (d k i : Nat), i + d = l.length → d < k → palaverref14_Has.l0 k s l (i : Int) = some (hasAll s (l.drop i) && decide ((l.length : Int) > 0))
  | 0, k, i, hi, hk => by
    obtain ⟨k, rfl⟩ : ∃ q, k = q + 1 := ⟨k - 1, by omega⟩
    rw [palaverref14_Has.l0, if_neg (by omega), List.drop_of_length_le (by omega)]
    simp [hasAll]
  | d + 1, k, i, hi, hk => by
    obtain ⟨k, rfl⟩ : ∃ q, k = q + 1 := ⟨k - 1, by omega⟩
    have hil : i < l.length := by omega
    have hp := hl l[i] (List.getElem_mem hil)
    have hr : rd l (i : Int) = l[i] := by simp [rd, List.getD_eq_getElem?_getD, List.getElem?_eq_getElem hil]
    have e1 : wrap64 (Int.tdiv l[i] 8) = l[i] / 8 := by rw [Int.tdiv_eq_ediv_of_nonneg hp.1, w64 (by omega) (by omega)]
    have e2 : Int.tmod l[i] 8 = l[i] % 8 := Int.tmod_eq_emod_of_nonneg hp.1
    have hsr := shr_range s (l[i] / 8) (l[i] % 8)
    rw [palaverref14_Has.l0, if_pos (by omega), if_pos (by omega), hr, e1, e2, if_pos (by omega), if_pos (by omega), if_pos (by omega), Int.tmod_eq_emod_of_nonneg hsr.1, w64 (n := (i : Int) + 1) (by omega) (by omega), show ((i : Int) + 1) = ((i + 1 : Nat) : Int) by omega, rHas_loop s l hs hl hlen d k (i + 1) (by omega) (by omega), List.drop_eq_getElem_cons hil]
    show (if bitAt s l[i] = 0 then _ else _) = _
    rw [hasAll_cons]
    by_cases h : bitAt s l[i] = 0
    · rw [if_pos h, show (bitAt s l[i] != 0) = false by simp [h]]
      rfl
    · rw [if_neg h, show (bitAt s l[i] != 0) = true by simp [h]]
      rfl
/-- Is an id probably there? -/
def there (s id : ByteArray) : Bool := hasAll s (places id (8 * (s.size : Int))) && decide (((places id (8 * (s.size : Int))).length : Int) > 0)
theorem places_le (id : ByteArray) (m : Int) : (places id m).length ≤ 4 := by rw [places_length]; split <;> omega
theorem places_big (id : ByteArray) (m : Int) (h : m > 4096) : places id m = [] := by
  unfold places
  rw [if_neg (by omega)]
theorem Has_eq (k : Nat) (s id : ByteArray) (hs : s.size ≤ 100000) (hk : 30 ≤ k) : bloom_Has.f k s id = some (there s id) := by
  unfold bloom_Has.f there
  rw [w64 (by omega) (by omega), Places_eq k _ _ (by omega), Option.bind_some]
  by_cases h : s.size ≤ 512
  · have := Has_loop s (places id (8 * (s.size : Int))) h (fun p hp => ⟨(places_mem _ _ _ hp).1, (places_mem _ _ _ hp).2.1⟩) (places_le _ _) (places id (8 * (s.size : Int))).length k 0 (by omega) (by have := places_le id (8 * (s.size : Int)); omega)
    rw [List.drop_zero] at this
    exact this
  · rw [places_big id _ (by omega)]
    obtain ⟨k, rfl⟩ : ∃ q, k = q + 1 := ⟨k - 1, by omega⟩
    rw [bloom_Has.l0, if_neg (by simp)]
    rfl
theorem rHas_eq (k : Nat) (s id : ByteArray) (hs : s.size ≤ 100000) (hk : 30 ≤ k) : palaverref14_Has.f k s id = some (there s id) := by
  unfold palaverref14_Has.f there
  by_cases h : s.size ≤ 512
  · rw [if_neg (by omega), w64 (by omega) (by omega), rPlaces_eq k _ _ (by omega), Option.bind_some]
    have := rHas_loop s (places id (8 * (s.size : Int))) h (fun p hp => ⟨(places_mem _ _ _ hp).1, (places_mem _ _ _ hp).2.1⟩) (places_le _ _) (places id (8 * (s.size : Int))).length k 0 (by omega) (by have := places_le id (8 * (s.size : Int)); omega)
    rw [List.drop_zero] at this
    exact this
  · rw [if_pos (by omega), places_big id _ (by omega)]
    rfl
/-- What was put in is there. -/
theorem there_made (ids : List ByteArray) (id : ByteArray) (hid : id ∈ ids) (h32 : id.size = 32) : there (made ids) id = true := by
  have hs := sz_cases (rights ids).length
  have hz := made_size ids
  have e8 : 8 * ((made ids).size : Int) = sz (rights ids).length := by rw [hz]; omega
  have hl : (places id (sz (rights ids).length)).length = 4 := by rw [places_length, if_pos ⟨h32, by omega, by omega⟩]
  unfold there
  rw [e8, hl]
  have : hasAll (made ids) (places id (sz (rights ids).length)) = true := by
    unfold hasAll
    rw [List.all_eq_true]
    intro p hp
    obtain ⟨h0, h1, _⟩ := places_mem _ _ _ hp
    obtain ⟨q, rfl⟩ := Int.eq_ofNat_of_zero_le h0
    have hset : isSet ids (sz (rights ids).length) q = true := by
      unfold isSet
      rw [List.any_eq_true]
      refine ⟨id, hid, ?_⟩
      rw [List.any_eq_true]
      exact ⟨_, hp, by simp⟩
    have hq : q / 8 < (made ids).size := by rw [hz]; omega
    have e1 : ((q : Int) / 8) = ((q / 8 : Nat) : Int) := by omega
    have e2 : ((q : Int) % 8) = ((q % 8 : Nat) : Int) := by omega
    unfold bitAt
    rw [e1, e2, bt_made ids _ hq, byteOf_bit, hset]
    rfl
  rw [this]
  rfl
theorem awake14_loop (k : Nat) (hk : 300 ≤ k) : ∀ (n : Nat) (x : ByteArray), x.size + n = 32 → palaverlaw14_awake.l0 (k + n + 1) x = some true
  | 0, x, hx => by
    rw [palaverlaw14_awake.l0, if_neg (by omega), Size_eq _ _ (by omega), Option.bind_some, if_pos (by decide), Size_eq _ _ (by omega), Option.bind_some, if_pos (by decide), Make_eq _ [] (by simp) (by simp; omega), Option.bind_some, if_pos (by decide +kernel), Make_eq _ [x] (by simp) (by simp; omega), Option.bind_some]
    have hz := made_size [x]
    have hs := sz_cases (rights [x]).length
    rw [Has_eq _ _ _ (by omega) (by omega), Option.bind_some, there_made [x] x (by simp) (by omega)]
  | n + 1, x, hx => by
    rw [palaverlaw14_awake.l0, if_pos (by omega), if_pos (by omega)]
    have e : (x ++ (⟨#[105]⟩ : ByteArray)).size + n = 32 := by
      rw [app_size, show (⟨#[105]⟩ : ByteArray).size = 1 from rfl]
      omega
    have := awake14_loop k hk n (x ++ ⟨#[105]⟩) e
    rw [show k + (n + 1) = k + n + 1 by omega]
    exact this
theorem awake14_eq (k : Nat) (hk : 400 ≤ k) : palaverlaw14_awake.f k = some true := by
  unfold palaverlaw14_awake.f
  have := awake14_loop (k - 33) (by omega) 32 ⟨#[]⟩ (by decide)
  rw [show k - 33 + 32 + 1 = k by omega] at this
  exact this
/-- Few ids, short ones. -/
theorem great_loop (l : List ByteArray) (hl : l.length ≤ 1000) : ∀ (d k i : Nat), i + d = l.length → d < k → ∃ b, palaverlaw14_great.l0 k l (i : Int) = some b
  | 0, k, i, hi, hk => by
    obtain ⟨k, rfl⟩ : ∃ q, k = q + 1 := ⟨k - 1, by omega⟩
    rw [palaverlaw14_great.l0, if_neg (by omega)]
    exact ⟨_, rfl⟩
  | d + 1, k, i, hi, hk => by
    obtain ⟨k, rfl⟩ : ∃ q, k = q + 1 := ⟨k - 1, by omega⟩
    rw [palaverlaw14_great.l0, if_pos (by omega), if_pos (by omega)]
    split
    · exact ⟨_, rfl⟩
    · rw [w64 (n := (i : Int) + 1) (by omega) (by omega), show ((i : Int) + 1) = ((i + 1 : Nat) : Int) by omega]
      exact great_loop l hl d k (i + 1) (by omega) (by omega)
theorem great_eq (k : Nat) (l : List ByteArray) (hk : 1001 < k) : palaverlaw14_great.f k l = some true ∨ l.length ≤ 1000 ∧ palaverlaw14_great.f k l = some false := by
  unfold palaverlaw14_great.f
  split
  · exact .inl rfl
  · have hl : l.length ≤ 1000 := by omega
    obtain ⟨b, hb⟩ := great_loop l hl l.length k 0 (by omega) (by omega)
    cases b
    · exact .inr ⟨hl, hb⟩
    · exact .inl hb
end Go.Proofs.Ytjpjhbgdaflmgaa.Oct
