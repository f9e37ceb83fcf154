import Derived.Test.YtjpjhbgdaflmgaaBlo2
import Derived.Test.YtjpjhbgdaflmgaaPPx2
/-! bloom: the bits of ids. -/
namespace Go.Proofs.Ytjpjhbgdaflmgaa.Oct
open Go.RowKit Go.Proofs.Ytjpjhbgdaflmgaa.PP Go.Proofs.YtjpjhbgdaflmgaaW.PrintWords Go.Proofs.YtjpjhbgdaflmgaaW.PrintLast Go.Proofs.YtjpjhbgdaflmgaaW.PrintMore
set_option linter.unusedSimpArgs false
set_option linter.unusedVariables false

def add (S : Nat → Bool) (p : Nat) : Nat → Bool := fun q => S q || q == p
def addAll (S : Nat → Bool) (l : List Int) : Nat → Bool := l.foldl (fun S p => add S p.toNat) S
def addIds (S : Nat → Bool) (m : Int) (ids : List ByteArray) : Nat → Bool := ids.foldl (fun S id => addAll S (places id m)) S
def mk (n : Nat) (S : Nat → Bool) : List Int := (List.range n).map (byteOf S)
theorem mk_length (n : Nat) (S : Nat → Bool) : (mk n S).length = n := by simp [mk]
theorem rd_mk (n : Nat) (S : Nat → Bool) (j : Nat) (h : j < n) : rd (mk n S) (j : Int) = byteOf S j := by
  simp [rd, mk, List.getD_eq_getElem?_getD, h]
theorem byteOf_add (S : Nat → Bool) (p : Nat) : byteOf (add S p) (p / 8) = Go.bits .or .u8 (byteOf S (p / 8)) (shl .u8 1 ((p % 8 : Nat) : Int)) := by
  have hr : p % 8 < 8 := Nat.mod_lt _ (by decide)
  have hp : p = 8 * (p / 8) + p % 8 := by omega
  have key : ∀ (j r : Nat) (hr : r < 8), byteOf (add S (8 * j + r)) j = Go.bits .or .u8 (byteOf S j) (shl .u8 1 (r : Int)) := by
    intro j r hr
    unfold byteOf add
    have e := enc_or (S (8 * j)) (S (8 * j + 1)) (S (8 * j + 2)) (S (8 * j + 3)) (S (8 * j + 4)) (S (8 * j + 5)) (S (8 * j + 6)) (S (8 * j + 7)) ⟨r, hr⟩
    refine Eq.trans ?_ e.symm
    have q : ∀ i, (8 * j + i == 8 * j + r) = decide (i = r) := fun i => by
      rw [Bool.eq_iff_iff]
      simp
    have q0 : (8 * j == 8 * j + r) = decide (0 = r) := q 0
    rw [q0, q 1, q 2, q 3, q 4, q 5, q 6, q 7]
    match r, hr with
    | 0, _ => rfl
    | 1, _ => rfl
    | 2, _ => rfl
    | 3, _ => rfl
    | 4, _ => rfl
    | 5, _ => rfl
    | 6, _ => rfl
    | 7, _ => rfl
  have := key (p / 8) (p % 8) hr
  rw [← hp] at this
  exact this
theorem byteOf_add_ne (S : Nat → Bool) (p j : Nat) (h : j ≠ p / 8) : byteOf (add S p) j = byteOf S j := by
  have e : ∀ i, i < 8 → (8 * j + i == p) = false := fun i hi => beq_eq_false_iff_ne.2 (by omega)
  unfold byteOf add
  rw [show (8 * j == p) = false from e 0 (by omega), e 1 (by omega), e 2 (by omega), e 3 (by omega), e 4 (by omega), e 5 (by omega), e 6 (by omega), e 7 (by omega)]
  simp only [Bool.or_false]
theorem mk_set (n : Nat) (S S' : Nat → Bool) (j : Nat) (v : Int) (hj : j < n) (h1 : byteOf S' j = v) (h2 : ∀ i, i < n → i ≠ j → byteOf S' i = byteOf S i) : (mk n S).set j v = mk n S' := by
  apply List.ext_getElem
  · simp [mk]
  · intro i h3 h4
    simp only [mk, List.length_map, List.length_range] at h4
    by_cases e : j = i
    · subst e
      simp [mk, h1]
    · rw [List.getElem_set_ne e]
      simp [mk]
      exact (h2 i h4 (fun h => e h.symm)).symm
theorem mk_or (n : Nat) (S : Nat → Bool) (p : Nat) (hp : p / 8 < n) : (mk n S).set (p / 8) (Go.bits .or .u8 (rd (mk n S) ((p / 8 : Nat) : Int)) (shl .u8 1 ((p % 8 : Nat) : Int))) = mk n (add S p) := by
  rw [rd_mk n S _ hp]
  exact mk_set n S _ _ _ hp (byteOf_add S p) (fun i _ hi => byteOf_add_ne S p i hi)
theorem Make_l2 (n : Nat) (m : Int) (hm : m = 8 * n) (hn : n ≤ 512) (ids : List ByteArray) (c j : Int) (l : List Int) (hl : ∀ p ∈ l, 0 ≤ p ∧ p < m) (hlen : l.length ≤ 4) :
    ∀ (d k i : Nat) (S : Nat → Bool), i + d = l.length → d < k → bloom_Make.l2 k m (mk n S) ids c j l (l.length : Int) (i : Int) = bloom_Make.l1 (k - d - 1) m (mk n (addAll S (l.drop i))) ids c (wrap64 (j + 1))
  | 0, k, i, S, hi, hk => by
    obtain ⟨k, rfl⟩ : ∃ q, k = q + 1 := ⟨k - 1, by omega⟩
    rw [bloom_Make.l2, if_neg (by omega), List.drop_of_length_le (by omega)]
    rfl
  | d + 1, k, i, S, hi, hk => by
    obtain ⟨k, rfl⟩ : ∃ q, k = q + 1 := ⟨k - 1, by omega⟩
    have hil : i < l.length := by omega
    have hp := hl l[i] (List.getElem_mem hil)
    have hr : rd l (i : Int) = l[i] := by simp [rd, List.getD_eq_getElem?_getD, List.getElem?_eq_getElem hil]
    obtain ⟨p, hpe⟩ := Int.eq_ofNat_of_zero_le hp.1
    rw [hpe] at hp hr
    have e1 : wrap64 (Int.tdiv (p : Int) 8) = ((p / 8 : Nat) : Int) := by rw [Int.tdiv_eq_ediv_of_nonneg hp.1, w64 (by omega) (by omega)]; omega
    have e2 : Int.tmod (p : Int) 8 = ((p % 8 : Nat) : Int) := by rw [Int.tmod_eq_emod_of_nonneg hp.1]; omega
    rw [bloom_Make.l2, if_pos (by omega), if_pos (by omega), if_pos (by omega), hr, e1, e2, if_pos (by omega), if_pos (by rw [mk_length]; omega), if_pos (by omega), Int.toNat_natCast, mk_or n S p (by omega), w64 (n := (i : Int) + 1) (by omega) (by omega)]
    have := Make_l2 n m hm hn ids c j l hl hlen d k (i + 1) (add S p) (by omega) (by omega)
    rw [show ((i : Int) + 1) = ((i + 1 : Nat) : Int) by omega, this, List.drop_eq_getElem_cons hil, hpe]
    rw [show k + 1 - (d + 1) - 1 = k - d - 1 by omega]
    rfl
theorem rdOf_get (l : List ByteArray) (i : Nat) (h : i < l.length) : rdOf ByteArray.empty l (i : Int) = l[i] := by
  simp [rdOf, List.getD_eq_getElem?_getD, List.getElem?_eq_getElem h]
theorem Make_l1 (n : Nat) (m : Int) (hm : m = 8 * n) (hn : n ≤ 512) (ids : List ByteArray) (hids : ids.length ≤ 1000000) :
    ∀ (d k j : Nat) (S : Nat → Bool), j + d = ids.length → 8 * d + 30 < k → bloom_Make.l1 k m (mk n S) ids (ids.length : Int) (j : Int) = some (strOfNums (mk n (addIds S m (ids.drop j))))
  | 0, k, j, S, hj, hk => by
    obtain ⟨k, rfl⟩ : ∃ q, k = q + 1 := ⟨k - 1, by omega⟩
    rw [bloom_Make.l1, if_neg (by omega), List.drop_of_length_le (by omega)]
    rfl
  | d + 1, k, j, S, hj, hk => by
    obtain ⟨k, rfl⟩ : ∃ q, k = q + 1 := ⟨k - 1, by omega⟩
    have hjl : j < ids.length := by omega
    rw [bloom_Make.l1, if_pos (by omega), if_pos (by omega), if_pos (by omega), rdOf_get _ _ hjl, Places_eq k _ _ (by omega), Option.bind_some]
    have hlen : (places ids[j] m).length ≤ 4 := by rw [places_length]; split <;> omega
    have := Make_l2 n m hm hn ids (ids.length : Int) (j : Int) (places ids[j] m) (fun p hp => ⟨(places_mem _ _ _ hp).1, (places_mem _ _ _ hp).2.1⟩) hlen (places ids[j] m).length k 0 S (by omega) (by omega)
    rw [show ((0 : Nat) : Int) = 0 from rfl, List.drop_zero] at this
    rw [this, w64 (n := (j : Int) + 1) (by omega) (by omega), show ((j : Int) + 1) = ((j + 1 : Nat) : Int) by omega]
    rw [Make_l1 n m hm hn ids hids d _ (j + 1) _ (by omega) (by omega), List.drop_eq_getElem_cons hjl]
    rfl
/-- The ids that are such. -/
def rights (ids : List ByteArray) : List ByteArray := ids.filter (fun id => id.size == 32)
theorem rights_le (ids : List ByteArray) : (rights ids).length ≤ ids.length := List.length_filter_le _ _
def made (ids : List ByteArray) : ByteArray := strOfNums (mk (sz (rights ids).length / 8).toNat (addIds (fun _ => false) (sz (rights ids).length) (rights ids)))
theorem replicate_mk (n : Nat) : List.replicate n (0 : Int) = mk n (fun _ => false) := by
  apply List.ext_getElem
  · simp [mk]
  · intro i h1 h2
    simp [mk, byteOf, enc, bn]
theorem rights_drop (ids : List ByteArray) (i : Nat) (h : i < ids.length) : rights (ids.drop i) = (if ids[i].size = 32 then [ids[i]] else []) ++ rights (ids.drop (i + 1)) := by
  rw [List.drop_eq_getElem_cons h]
  unfold rights
  rw [List.filter_cons]
  by_cases e : ids[i].size = 32
  · rw [if_pos (by simpa using e), if_pos e]; rfl
  · rw [if_neg (by simpa using e), if_neg e]; rfl
theorem Make_l0 (ids : List ByteArray) (hids : ids.length ≤ 1000000) :
    ∀ (d k i : Nat) (acc : List ByteArray), i + d = ids.length → acc.length + d ≤ 1000000 → 21 * d + 20 * acc.length + 100 < k → acc ++ rights (ids.drop i) = rights ids → bloom_Make.l0 k acc ids (ids.length : Int) (i : Int) = some (made ids)
  | 0, k, i, acc, hi, ha, hk, he => by
    obtain ⟨k, rfl⟩ : ∃ q, k = q + 1 := ⟨k - 1, by omega⟩
    rw [List.drop_of_length_le (by omega)] at he
    have he : acc = rights ids := by rw [← he]; simp [rights]
    subst he
    rw [bloom_Make.l0, if_neg (by omega), Size_eq k _ (by omega), Option.bind_some]
    have hs := sz_cases (rights ids).length
    have e1 : wrap64 (Int.tdiv (sz (rights ids).length) 8) = sz (rights ids).length / 8 := by rw [Int.tdiv_eq_ediv_of_nonneg (by omega), w64 (by omega) (by omega)]
    rw [e1, if_pos (by omega), if_pos (by omega), replicate_mk]
    have := Make_l1 (sz (rights ids).length / 8).toNat (sz (rights ids).length) (by omega) (by omega) (rights ids) (by omega) (rights ids).length k 0 (fun _ => false) (by omega) (by omega)
    rw [List.drop_zero] at this
    exact this
  | d + 1, k, i, acc, hi, ha, hk, he => by
    obtain ⟨k, rfl⟩ : ∃ q, k = q + 1 := ⟨k - 1, by omega⟩
    have hil : i < ids.length := by omega
    rw [bloom_Make.l0, if_pos (by omega), if_pos (by omega), if_pos (by omega), rdOf_get _ _ hil, w64 (n := (i : Int) + 1) (by omega) (by omega), show ((i : Int) + 1) = ((i + 1 : Nat) : Int) by omega]
    rw [rights_drop ids i hil] at he
    by_cases h : (ids[i].size : Int) = 32
    · rw [if_pos h, if_pos (by omega)]
      rw [if_pos (by omega), ← List.append_assoc] at he
      exact Make_l0 ids hids d k (i + 1) (acc ++ [ids[i]]) (by omega) (by simp; omega) (by simp; omega) he
    · rw [if_neg h]
      rw [if_neg (by omega), List.nil_append] at he
      exact Make_l0 ids hids d k (i + 1) acc (by omega) (by omega) (by omega) he
theorem Make_eq (k : Nat) (ids : List ByteArray) (hids : ids.length ≤ 1000000) (hk : 21 * ids.length + 100 < k) : bloom_Make.f k ids = some (made ids) := by
  unfold bloom_Make.f
  exact Make_l0 ids hids ids.length k 0 [] (by omega) (by simp; omega) (by simp; omega) (by simp)

/-! what is set -/
theorem addAll_eq (l : List Int) : ∀ (S : Nat → Bool) (q : Nat), addAll S l q = (S q || l.any (fun p => q == p.toNat)) := by
  induction l with
  | nil => intro S q; simp [addAll]
  | cons p l ih =>
    intro S q
    have := ih (add S p.toNat) q
    unfold addAll at this ⊢
    rw [List.foldl_cons, this]
    simp [add, Bool.or_assoc]
theorem addIds_eq (m : Int) (ids : List ByteArray) : ∀ (S : Nat → Bool) (q : Nat), addIds S m ids q = (S q || ids.any (fun id => (places id m).any (fun p => q == p.toNat))) := by
  induction ids with
  | nil => intro S q; simp [addIds]
  | cons id ids ih =>
    intro S q
    have := ih (addAll S (places id m)) q
    unfold addIds at this ⊢
    rw [List.foldl_cons, this, addAll_eq]
    simp [Bool.or_assoc]
/-- Is a bit set? -/
def isSet (ids : List ByteArray) (m : Int) (q : Nat) : Bool := ids.any (fun id => (places id m).any (fun p => q == p.toNat))
theorem isSet_rights (ids : List ByteArray) (m : Int) (q : Nat) : isSet (rights ids) m q = isSet ids m q := by
  unfold isSet rights
  rw [List.any_filter]
  congr 1
  funext id
  by_cases h : id.size = 32
  · simp [h]
  · simp [h, places]
theorem made_eq (ids : List ByteArray) : made ids = strOfNums (mk (sz (rights ids).length / 8).toNat (isSet ids (sz (rights ids).length))) := by
  unfold made
  congr 2
  funext q
  rw [addIds_eq, ← isSet_rights]
  simp [isSet]
theorem made_size (ids : List ByteArray) : (made ids).size = (sz (rights ids).length / 8).toNat := by
  rw [made_eq, strOfNums_size, mk_length]
theorem byteOf_range (S : Nat → Bool) (j : Nat) : 0 ≤ byteOf S j ∧ byteOf S j < 256 := enc_range ..
theorem mk_range (n : Nat) (S : Nat → Bool) : ∀ c ∈ mk n S, 0 ≤ c ∧ c < 256 := by
  intro c hc
  unfold mk at hc
  obtain ⟨j, _, rfl⟩ := List.mem_map.1 hc
  exact byteOf_range S j
theorem bt_made (ids : List ByteArray) (j : Nat) (h : j < (made ids).size) : bt (made ids) (j : Int) = byteOf (isSet ids (sz (rights ids).length)) j := by
  have h1 := bt_bytes (made ids) j h
  rw [h1]
  have e : bytesOf (made ids) = mk (sz (rights ids).length / 8).toNat (isSet ids (sz (rights ids).length)) := by
    rw [made_eq, bytesOf_nums _ (mk_range _ _)]
  simp only [e]
  simp [mk]
theorem byteOf_bit (S : Nat → Bool) (p : Nat) : shr .u8 (byteOf S (p / 8)) ((p % 8 : Nat) : Int) % 2 = bn (S p) := by
  have key : ∀ (j r : Nat) (hr : r < 8), shr .u8 (byteOf S j) (r : Int) % 2 = bn (S (8 * j + r)) := by
    intro j r hr
    refine (enc_bit (S (8 * j)) (S (8 * j + 1)) (S (8 * j + 2)) (S (8 * j + 3)) (S (8 * j + 4)) (S (8 * j + 5)) (S (8 * j + 6)) (S (8 * j + 7)) ⟨r, hr⟩).trans ?_
    match r, hr with
    | 0, _ => rfl
    | 1, _ => rfl
    | 2, _ => rfl
    | 3, _ => rfl
    | 4, _ => rfl
    | 5, _ => rfl
    | 6, _ => rfl
    | 7, _ => rfl
  have := key (p / 8) (p % 8) (Nat.mod_lt _ (by decide))
  rw [show 8 * (p / 8) + p % 8 = p by omega] at this
  exact this
end Go.Proofs.Ytjpjhbgdaflmgaa.Oct
