import Derived.Test.YtjpjhbgdaflmgaaBlo4
import Derived.Test.YtjpjhbgdaflmgaaPPx5
/-! bloom: the document's bits of ids. -/
namespace Go.Proofs.Ytjpjhbgdaflmgaa.Oct
open Go.RowKit Go.Proofs.Ytjpjhbgdaflmgaa.PP Go.Proofs.YtjpjhbgdaflmgaaW.PrintWords Go.Proofs.YtjpjhbgdaflmgaaW.PrintLast Go.Proofs.YtjpjhbgdaflmgaaW.PrintMore
set_option linter.unusedSimpArgs false
set_option linter.unusedVariables false

/-- A set of bits as a list. -/
def mkb (m : Nat) (S : Nat → Bool) : List Bool := (List.range m).map S
theorem mkb_length (m : Nat) (S : Nat → Bool) : (mkb m S).length = m := by simp [mkb]
theorem mkb_set (m : Nat) (S : Nat → Bool) (p : Nat) : (mkb m S).set p true = mkb m (add S p) := by
  apply List.ext_getElem
  · simp [mkb]
  · intro i h1 h2
    by_cases e : p = i
    · subst e
      simp [mkb, add]
    · rw [List.getElem_set_ne e]
      simp [mkb, add]
      intro h
      exact absurd h.symm e
theorem rMake_l2 (m : Nat) (hm : m ≤ 4096) (ids : List ByteArray) (j : Int) (l : List Int) (hl : ∀ p ∈ l, 0 ≤ p ∧ p < (m : Int)) (hlen : l.length ≤ 4) :
    ∀ (d k i : Nat) (S : Nat → Bool), i + d = l.length → d < k → palaverref14_Make.l2 k ids m (mkb m S) j l (i : Int) = palaverref14_Make.l1 (k - d - 1) ids m (mkb m (addAll S (l.drop i))) (wrap64 (j + 1))
  | 0, k, i, S, hi, hk => by
    obtain ⟨k, rfl⟩ : ∃ q, k = q + 1 := ⟨k - 1, by omega⟩
    rw [palaverref14_Make.l2, if_neg (by omega), List.drop_of_length_le (by omega)]
    rfl
  | d + 1, k, i, S, hi, hk => by
    obtain ⟨k, rfl⟩ : ∃ q, k = q + 1 := ⟨k - 1, by omega⟩
    have hil : i < l.length := by omega
    have hp := hl l[i] (List.getElem_mem hil)
    have hr : rd l (i : Int) = l[i] := by simp [rd, List.getD_eq_getElem?_getD, List.getElem?_eq_getElem hil]
    obtain ⟨p, hpe⟩ := Int.eq_ofNat_of_zero_le hp.1
    rw [hpe] at hp hr
    rw [palaverref14_Make.l2, if_pos (by omega), if_pos (by omega), hr, if_pos (by omega), if_pos (by rw [mkb_length]; omega), Int.toNat_natCast, mkb_set, w64 (n := (i : Int) + 1) (by omega) (by omega)]
    have := rMake_l2 m hm ids j l hl hlen d k (i + 1) (add S p) (by omega) (by omega)
    rw [show ((i : Int) + 1) = ((i + 1 : Nat) : Int) by omega, this, List.drop_eq_getElem_cons hil, hpe]
    rw [show k + 1 - (d + 1) - 1 = k - d - 1 by omega]
    rfl
/-- The bits below i. -/
def cut (S : Nat → Bool) (i : Nat) : Nat → Bool := fun q => S q && decide (q < i)
theorem cut_yes (S : Nat → Bool) (i : Nat) (h : S i = true) : cut S (i + 1) = add (cut S i) i := by
  funext q
  unfold cut add
  by_cases e : q = i
  · subst e; simp [h]
  · have : decide (q < i + 1) = decide (q < i) := decide_eq_decide.2 (by omega)
    simp [e, this]
theorem cut_no (S : Nat → Bool) (i : Nat) (h : S i = false) : cut S (i + 1) = cut S i := by
  funext q
  unfold cut
  by_cases e : q = i
  · subst e; simp [h]
  · have : decide (q < i + 1) = decide (q < i) := decide_eq_decide.2 (by omega)
    simp [this]
theorem byteOf_plus (S : Nat → Bool) (p : Nat) (h : S p = false) : (byteOf S (p / 8) + shl .u8 1 ((p % 8 : Nat) : Int)) % 256 = byteOf (add S p) (p / 8) := by
  rw [byteOf_add]
  have key : ∀ (j r : Nat) (hr : r < 8), S (8 * j + r) = false → (byteOf S j + shl .u8 1 (r : Int)) % 256 = Go.bits .or .u8 (byteOf S j) (shl .u8 1 (r : Int)) := by
    intro j r hr hS
    have e1 := enc_or (S (8 * j)) (S (8 * j + 1)) (S (8 * j + 2)) (S (8 * j + 3)) (S (8 * j + 4)) (S (8 * j + 5)) (S (8 * j + 6)) (S (8 * j + 7)) ⟨r, hr⟩
    have e2 := enc_add (S (8 * j)) (S (8 * j + 1)) (S (8 * j + 2)) (S (8 * j + 3)) (S (8 * j + 4)) (S (8 * j + 5)) (S (8 * j + 6)) (S (8 * j + 7)) ⟨r, hr⟩ (by
      match r, hr, hS with
      | 0, _, hS => exact hS
      | 1, _, hS => exact hS
      | 2, _, hS => exact hS
      | 3, _, hS => exact hS
      | 4, _, hS => exact hS
      | 5, _, hS => exact hS
      | 6, _, hS => exact hS
      | 7, _, hS => exact hS)
    exact e2.trans e1.symm
  have := key (p / 8) (p % 8) (Nat.mod_lt _ (by decide)) (by rw [show 8 * (p / 8) + p % 8 = p by omega]; exact h)
  exact this
theorem rMake_l3 (n : Nat) (m : Nat) (hm : m = 8 * n) (hn : n ≤ 512) (S : Nat → Bool) :
    ∀ (d k i : Nat), i + d = m → d < k → palaverref14_Make.l3 k m (mkb m S) (mk n (cut S i)) (i : Int) = some (strOfNums (mk n S))
  | 0, k, i, hi, hk => by
    obtain ⟨k, rfl⟩ : ∃ q, k = q + 1 := ⟨k - 1, by omega⟩
    have e : mk n (cut S i) = mk n S := by
      unfold mk
      refine List.map_congr_left fun j hj => ?_
      rw [List.mem_range] at hj
      have c : ∀ q, q < m → cut S i q = S q := fun q hq => by unfold cut; rw [decide_eq_true (by omega), Bool.and_true]
      unfold byteOf
      rw [c _ (by omega), c _ (by omega), c _ (by omega), c _ (by omega), c _ (by omega), c _ (by omega), c _ (by omega), c _ (by omega)]
    rw [palaverref14_Make.l3, if_neg (by omega), e]
  | d + 1, k, i, hi, hk => by
    obtain ⟨k, rfl⟩ : ∃ q, k = q + 1 := ⟨k - 1, by omega⟩
    have hr : rdOf false (mkb m S) (i : Int) = S i := by simp [rdOf, mkb, List.getD_eq_getElem?_getD, show i < m by omega]
    rw [palaverref14_Make.l3, if_pos (by omega), if_pos (by omega), if_pos (by rw [mkb_length]; omega), hr, w64 (n := (i : Int) + 1) (by omega) (by omega), show ((i : Int) + 1) = ((i + 1 : Nat) : Int) by omega]
    have e1 : wrap64 (Int.tdiv (i : Int) 8) = ((i / 8 : Nat) : Int) := by rw [Int.tdiv_eq_ediv_of_nonneg (by omega), w64 (by omega) (by omega)]; omega
    have e2 : Int.tmod (i : Int) 8 = ((i % 8 : Nat) : Int) := by rw [Int.tmod_eq_emod_of_nonneg (by omega)]; omega
    have go := rMake_l3 n m hm hn S d k (i + 1) (by omega) (by omega)
    cases h : S i
    · rw [if_neg (by simp)]
      rw [cut_no S i h] at go
      exact go
    · rw [cut_yes S i h] at go
      rw [if_pos rfl, e1, e2, if_pos (by omega), if_pos (by rw [mk_length]; omega), if_pos (by omega), Int.toNat_natCast, rd_mk n _ _ (by omega), byteOf_plus (cut S i) i (by simp [cut]),
        mk_set n (cut S i) (add (cut S i) i) (i / 8) _ (by omega) rfl (fun q _ hq => byteOf_add_ne _ _ _ hq)]
      exact go
theorem rMake_l1 (n : Nat) (m : Nat) (hm : m = 8 * n) (hn : n ≤ 512) (hn1 : 1 ≤ n) (ids : List ByteArray) (hids : ids.length ≤ 1000000) :
    ∀ (d k j : Nat) (S : Nat → Bool), j + d = ids.length → 8 * d + 5000 < k → palaverref14_Make.l1 k ids m (mkb m S) (j : Int) = some (strOfNums (mk n (addIds S m (ids.drop j))))
  | 0, k, j, S, hj, hk => by
    obtain ⟨k, rfl⟩ : ∃ q, k = q + 1 := ⟨k - 1, by omega⟩
    have e1 : wrap64 (Int.tdiv (m : Int) 8) = (n : Int) := by rw [Int.tdiv_eq_ediv_of_nonneg (by omega), w64 (by omega) (by omega)]; omega
    have e0 : List.replicate n (0 : Int) = mk n (cut S 0) := by
      rw [replicate_mk]
      congr 1
      funext q
      simp [cut]
    rw [palaverref14_Make.l1, if_neg (by omega), e1, if_pos (by omega), if_pos (by omega), Int.toNat_natCast, e0, List.drop_of_length_le (by omega)]
    exact rMake_l3 n m hm hn S m k 0 (by omega) (by omega)
  | d + 1, k, j, S, hj, hk => by
    obtain ⟨k, rfl⟩ : ∃ q, k = q + 1 := ⟨k - 1, by omega⟩
    have hjl : j < ids.length := by omega
    rw [palaverref14_Make.l1, if_pos (by omega), if_pos (by omega), rdOf_get _ _ hjl, rPlaces_eq k _ _ (by omega), Option.bind_some]
    have hlen := places_le ids[j] m
    have := rMake_l2 m (by omega) ids (j : Int) (places ids[j] m) (fun p hp => ⟨(places_mem _ _ _ hp).1, (places_mem _ _ _ hp).2.1⟩) hlen (places ids[j] m).length k 0 S (by omega) (by omega)
    rw [show ((0 : Nat) : Int) = 0 from rfl, List.drop_zero] at this
    rw [this, w64 (n := (j : Int) + 1) (by omega) (by omega), show ((j : Int) + 1) = ((j + 1 : Nat) : Int) by omega]
    rw [rMake_l1 n m hm hn hn1 ids hids d _ (j + 1) _ (by omega) (by omega), List.drop_eq_getElem_cons hjl]
    rfl
theorem rMake_l0 (ids : List ByteArray) (hids : ids.length ≤ 1000000) :
    ∀ (d k i c : Nat), i + d = ids.length → c ≤ i → d + 20 * ids.length + 10000 < k → c + (rights (ids.drop i)).length = (rights ids).length → palaverref14_Make.l0 k ids (c : Int) (i : Int) = some (made ids)
  | 0, k, i, c, hi, hc, hk, he => by
    obtain ⟨k, rfl⟩ : ∃ q, k = q + 1 := ⟨k - 1, by omega⟩
    rw [List.drop_of_length_le (by omega)] at he
    have he : c = (rights ids).length := by rw [← he]; simp [rights]
    have hs := sz_cases (rights ids).length
    rw [palaverref14_Make.l0, if_neg (by omega), rSize_eq k _ (by omega), Option.bind_some, he, if_pos (by omega), if_pos (by omega)]
    have e0 : List.replicate (sz (rights ids).length).toNat false = mkb (sz (rights ids).length).toNat (fun _ => false) := by
      apply List.ext_getElem
      · simp [mkb]
      · intro q h1 h2
        simp [mkb]
    have := rMake_l1 (sz (rights ids).length / 8).toNat (sz (rights ids).length).toNat (by omega) (by omega) (by omega) ids hids ids.length k 0 (fun _ => false) (by omega) (by omega)
    rw [show ((sz (rights ids).length).toNat : Int) = sz (rights ids).length by omega] at this
    rw [e0]
    refine Eq.trans this ?_
    rw [made_eq, List.drop_zero]
    congr 3
    funext q
    rw [addIds_eq]
    simp [isSet]
  | d + 1, k, i, c, hi, hc, hk, he => by
    obtain ⟨k, rfl⟩ : ∃ q, k = q + 1 := ⟨k - 1, by omega⟩
    have hil : i < ids.length := by omega
    rw [palaverref14_Make.l0, if_pos (by omega), if_pos (by omega), rdOf_get _ _ hil, w64 (n := (i : Int) + 1) (by omega) (by omega), w64 (n := (c : Int) + 1) (by omega) (by omega), show ((i : Int) + 1) = ((i + 1 : Nat) : Int) by omega, show ((c : Int) + 1) = ((c + 1 : Nat) : Int) by omega]
    rw [rights_drop ids i hil] at he
    by_cases h : (ids[i].size : Int) = 32
    · rw [if_pos h]
      rw [if_pos (by omega), List.length_append] at he
      exact rMake_l0 ids hids d k (i + 1) (c + 1) (by omega) (by omega) (by omega) (by simp at he; omega)
    · rw [if_neg h]
      rw [if_neg (by omega), List.nil_append] at he
      exact rMake_l0 ids hids d k (i + 1) c (by omega) (by omega) (by omega) he
theorem rMake_eq (k : Nat) (ids : List ByteArray) (hids : ids.length ≤ 1000000) (hk : 21 * ids.length + 10000 < k) : palaverref14_Make.f k ids = some (made ids) := by
  unfold palaverref14_Make.f
  exact rMake_l0 ids hids ids.length k 0 0 (by omega) (by omega) (by omega) (by simp)
end Go.Proofs.Ytjpjhbgdaflmgaa.Oct
