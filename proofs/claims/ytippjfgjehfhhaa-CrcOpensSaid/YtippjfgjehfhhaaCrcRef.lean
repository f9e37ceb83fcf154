import Derived.Test.YtippjfgjehfhhaaCrc
import Derived.Test.YtippjfgjehfhhaaPPx2
/-! The document's register, bit by bit in a list, is the word's register. -/
namespace Go.Proofs.Ytippjfgjehfhhaa.Oct
open Go.RowKit Go.Proofs.Ytippjfgjehfhhaa.PP Go.Proofs.YtippjfgjehfhhaaW.PrintWords Go.Proofs.YtippjfgjehfhhaaW.PrintLast Go.Proofs.YtippjfgjehfhhaaW.PrintMore
set_option linter.unusedSimpArgs false
set_option linter.unusedVariables false
open palaverref08_More

/-- The first n bits of a list are told. -/
def Bits (l : List Bool) (f : Nat → Bool) : Prop := l.length = 32 ∧ ∀ j, j < 32 → l.getD j false = f j
theorem Bits.set {l : List Bool} {f g : Nat → Bool} (h : Bits l f) (i : Nat) (v : Bool) (hi : i < 32) (hg : ∀ j, j < 32 → g j = if j = i then v else f j) : Bits (l.set i v) g := by
  refine ⟨by rw [List.length_set]; exact h.1, fun j hj => ?_⟩
  rw [hg j hj, List.getD_eq_getElem?_getD, List.getElem?_set]
  by_cases e : i = j
  · subst e
    rw [if_pos rfl, if_pos rfl, if_pos (by rw [h.1]; exact hi)]
    rfl
  · rw [if_neg e, if_neg (fun e2 => e e2.symm), ← List.getD_eq_getElem?_getD]
    exact h.2 j hj
theorem Bits.same {l : List Bool} {f g : Nat → Bool} (h : Bits l f) (hg : ∀ j, j < 32 → f j = g j) : Bits l g := ⟨h.1, fun j hj => (h.2 j hj).trans (hg j hj)⟩
/-- A bit of a number. -/
theorem bit_of (n i : Nat) (k : IntKind) (hi : i ≤ k.bits) : Int.tmod (shr k (n : Int) (i : Int)) 2 = if n.testBit i then 1 else 0 := by
  unfold shr
  rw [Int.toNat_natCast, Nat.min_eq_left hi, show ((n : Int) / 2 ^ i) = ((n / 2 ^ i : Nat) : Int) by simp]
  rw [Nat.testBit_eq_decide_div_mod_eq]
  generalize n / 2 ^ i = m
  rw [Int.tmod_eq_emod_of_nonneg (by omega)]
  have : m % 2 = 0 ∨ m % 2 = 1 := by omega
  rcases this with h | h
  · rw [h]; rw [if_neg (by decide)]; omega
  · rw [h]; rw [if_pos (by decide)]; omega
theorem w1 {i : Nat} (h : i < 100) : wrap64 ((i : Int) + 1) = ((i + 1 : Nat) : Int) := by rw [w64 (by omega) (by omega)]; omega
section
variable {x1 : ByteArray} {q : Int} {x7 x8 : Int}
theorem l1_up {k : Nat} {x5 : List Bool} (h : l1 k x1 x5 x7 = some q) : ∀ m, l1 (k + m) x1 x5 x7 = some q
  | 0 => h
  | m + 1 => (mono_l (k + m)).2.1 _ _ _ _ (l1_up h m)
theorem l2_up {k : Nat} {x5 : List Bool} (h : l2 k x1 x5 x7 x8 = some q) : ∀ m, l2 (k + m) x1 x5 x7 x8 = some q
  | 0 => h
  | m + 1 => (mono_l (k + m)).2.2.1 _ _ _ _ _ (l2_up h m)
/-- The polynomial is taken in. -/
theorem l4_true (k : Nat) (r : W32) (hq : ∀ l, Bits l (r ^^^ poly).getLsbD → l2 k x1 l x7 (wrap64 (x8 + 1)) = some q) :
    ∀ (d i : Nat) (l : List Bool), i + d = 32 → Bits l (fun j => r.getLsbD j ^^ (decide (j < i) && poly.getLsbD j)) → l4 (k + 2 * d + 2) x1 l x7 x8 true (i : Int) = some q
  | 0, i, l, hi, hl => by
    rw [l4, if_neg (by omega), j5, if_neg (by decide)]
    refine hq l (hl.same fun j hj => ?_)
    rw [show decide (j < i) = true from decide_eq_true (by omega), Bool.true_and, BitVec.getLsbD_xor]
  | d + 1, i, l, hi, hl => by
    have hi' : i < 32 := by omega
    rw [l4, if_pos (by omega), show k + 2 * (d + 1) + 1 = (k + 2 * d + 2) + 1 by omega, j5, if_pos rfl, if_pos (by omega), show (3988292384 : Int) = ((3988292384 : Nat) : Int) from rfl, bit_of _ _ _ (by show i ≤ 32; omega), w1 (by omega)]
    have hp : Nat.testBit 3988292384 i = poly.getLsbD i := rfl
    rw [hp]
    cases e : poly.getLsbD i
    · rw [if_neg (by decide)]
      refine l4_true k r hq d (i + 1) l (by omega) (hl.same fun j hj => ?_)
      by_cases hj2 : j = i
      · subst hj2; simp [e]
      · rw [show decide (j < i + 1) = decide (j < i) from decide_eq_decide.2 (by omega)]
    · rw [if_pos (show (if true = true then (1 : Int) else 0) = 1 from rfl), if_pos hl.1, if_pos (by rw [hl.1]; omega), Int.toNat_natCast]
      refine l4_true k r hq d (i + 1) _ (by omega) (hl.set i _ hi' fun j hj => ?_)
      by_cases hj2 : j = i
      · subst hj2
        have := hl.2 j hj
        rw [if_pos rfl, rdOf, Int.toNat_natCast, this]
        simp [e]
      · rw [if_neg hj2, show decide (j < i + 1) = decide (j < i) from decide_eq_decide.2 (by omega)]
theorem l4_false (k : Nat) (l : List Bool) : l4 (k + 2) x1 l x7 x8 false 0 = l2 k x1 l x7 (wrap64 (x8 + 1)) := by
  rw [l4, if_pos (by omega), j5, if_neg (by decide)]
/-- One shift. -/
theorem l3_eq (k : Nat) (r : W32) (out : Bool) (hq : ∀ l, Bits l (r >>> 1).getLsbD → l4 k x1 l x7 x8 out 0 = some q) :
    ∀ (d i : Nat) (l : List Bool), i + d = 31 → Bits l (fun j => if j < i then r.getLsbD (j + 1) else r.getLsbD j) → l3 (k + d + 1) x1 l x7 x8 out (i : Int) = some q
  | 0, i, l, hi, hl => by
    rw [l3, if_neg (by omega), if_pos hl.1, if_pos (by rw [hl.1]; omega)]
    refine hq _ (hl.set 31 false (by omega) fun j hj => ?_)
    rw [BitVec.getLsbD_ushiftRight, Nat.add_comm 1 j]
    by_cases hj2 : j = 31
    · subst hj2; rw [if_pos rfl]; exact BitVec.getLsbD_of_ge _ _ (by omega)
    · rw [if_neg hj2, if_pos (by omega)]
  | d + 1, i, l, hi, hl => by
    rw [l3, if_pos (by omega), if_pos hl.1, w1 (by omega), if_pos (by omega), if_pos (by rw [hl.1]; omega), if_pos (by omega), if_pos (by rw [hl.1]; omega), Int.toNat_natCast]
    rw [show k + (d + 1) = k + d + 1 by omega]
    refine l3_eq k r out hq d (i + 1) _ (by omega) (hl.set i _ (by omega) fun j hj => ?_)
    by_cases hj2 : j = i
    · subst hj2
      rw [if_pos rfl, if_pos (by omega), rdOf, Int.toNat_natCast, hl.2 (j + 1) (by omega)]
      show _ = if j + 1 < j then _ else _
      rw [if_neg (by omega)]
    · rw [if_neg hj2]
      by_cases hj3 : j < i
      · rw [if_pos (by omega), if_pos hj3]
      · rw [if_neg (by omega), if_neg hj3]
end
/-- One bit taken in. -/
def stb (r : W32) (b : Bool) : W32 := (r >>> 1) ^^^ (if (r.getLsbD 0 != b) then poly else 0#32)
theorem lsb_mask (r : W32) : -(r &&& 1#32) = if r.getLsbD 0 then BitVec.allOnes 32 else 0#32 := by
  have h : r &&& 1#32 = if r.getLsbD 0 then 1#32 else 0#32 := by
    apply BitVec.eq_of_getLsbD_eq
    intro i hi
    rw [BitVec.getLsbD_and]
    cases i with
    | zero => cases r.getLsbD 0 <;> simp
    | succ i =>
      rw [show (1#32).getLsbD (i + 1) = false by simp [BitVec.getLsbD_one]]
      cases r.getLsbD 0 <;> simp [BitVec.getLsbD_one]
  rw [h]
  cases r.getLsbD 0 <;> decide
theorem stp_eq (r : W32) : stp r = (r >>> 1) ^^^ (if r.getLsbD 0 then poly else 0#32) := by
  unfold stp
  rw [lsb_mask]
  cases r.getLsbD 0
  · rw [if_neg (by decide), if_neg (by decide), BitVec.and_zero]
  · rw [if_pos rfl, if_pos rfl, BitVec.and_allOnes]
/-- Taking a bit in, and then the others. -/
theorem stp_stb (r c : W32) : stp (r ^^^ c) = stb r (c.getLsbD 0) ^^^ (c >>> 1) := by
  rw [stp_eq, stb, BitVec.ushiftRight_xor_distrib, BitVec.getLsbD_xor]
  cases r.getLsbD 0 <;> cases c.getLsbD 0 <;> simp <;> ac_rfl
def runb : Nat → W32 → W32 → W32
  | 0, r, _ => r
  | n + 1, r, c => runb n (stb r (c.getLsbD 0)) (c >>> 1)
def stpn : Nat → W32 → W32
  | 0, r => r
  | n + 1, r => stpn n (stp r)
theorem runb_eq : ∀ (n : Nat) (r c : W32), c.toNat < 2 ^ n → runb n r c = stpn n (r ^^^ c)
  | 0, r, c, h => by
    have : c = 0#32 := by apply BitVec.eq_of_toNat_eq; simp at h ⊢; omega
    subst this
    simp [runb, stpn]
  | n + 1, r, c, h => by
    rw [runb, stpn, stp_stb, runb_eq n _ _ (by rw [BitVec.toNat_ushiftRight, Nat.shiftRight_eq_div_pow]; rw [Nat.pow_succ] at h; omega)]
section
variable {x1 : ByteArray} {q : Int}
theorem l2_eq (x7 : Nat) (hx : x7 < x1.size) (k : Nat) (rr : W32) (hq : ∀ l, Bits l rr.getLsbD → l1 k x1 l (wrap64 ((x7 : Int) + 1)) = some q) :
    ∀ (d i : Nat) (r : W32) (l : List Bool), i + d = 8 → runb d r (BitVec.ofNat 32 ((bt x1 x7).toNat >>> i)) = rr → Bits l r.getLsbD → l2 (k + 200 * d + 1) x1 l (x7 : Int) (i : Int) = some q
  | 0, i, r, l, hi, hr, hl => by
    rw [l2, if_neg (by omega)]
    refine hq l ?_
    rw [← hr]
    exact hl
  | d + 1, i, r, l, hi, hr, hl => by
    obtain ⟨n, hn⟩ := Int.eq_ofNat_of_zero_le (bt_range x1 x7).1
    rw [l2, if_pos (by omega), if_pos hl.1, if_pos (by rw [hl.1]; omega), if_pos (by omega), if_pos (by omega), if_pos (by omega), hn, bit_of _ _ _ (by show i ≤ 8; omega)]
    rw [hn, Int.toNat_natCast, runb] at hr
    have hb : (BitVec.ofNat 32 (n >>> i)).getLsbD 0 = n.testBit i := by
      rw [BitVec.getLsbD_ofNat]
      simp
    have hs : BitVec.ofNat 32 (n >>> i) >>> 1 = BitVec.ofNat 32 (n >>> (i + 1)) := by
      have h1 : n < 2 ^ 32 := by have := (bt_range x1 x7).2; rw [hn] at this; omega
      apply BitVec.eq_of_toNat_eq
      rw [BitVec.toNat_ushiftRight, BitVec.toNat_ofNat, BitVec.toNat_ofNat, Nat.shiftRight_add]
      have h2 : n >>> i < 2 ^ 32 := Nat.lt_of_le_of_lt (Nat.shiftRight_le _ _) h1
      have h3 : n >>> i >>> 1 < 2 ^ 32 := Nat.lt_of_le_of_lt (Nat.shiftRight_le _ _) h2
      rw [Nat.mod_eq_of_lt h2, Nat.mod_eq_of_lt h3]
    rw [hb, hs] at hr
    have ih : ∀ l, Bits l (stb r (n.testBit i)).getLsbD → l2 (k + 200 * d + 1) x1 l (x7 : Int) (wrap64 ((i : Int) + 1)) = some q := fun l hl2 => by
      rw [w1 (by omega)]
      refine l2_eq x7 hx k rr hq d (i + 1) _ l (by omega) ?_ hl2
      rw [hn, Int.toNat_natCast]
      exact hr
    have h0 : rdOf false l 0 = r.getLsbD 0 := hl.2 0 (by omega)
    have e1 : ((if n.testBit i = true then (1 : Int) else 0) == 1) = n.testBit i := by cases n.testBit i <;> rfl
    rw [h0, e1]
    have hstep : ∀ out, out = (r.getLsbD 0 != n.testBit i) → l3 (k + 200 * (d + 1)) x1 l (x7 : Int) (i : Int) out 0 = some q := by
      intro out ho
      have e2 : k + 200 * (d + 1) = ((k + 200 * d + 1) + 100 + 66) + 31 + 1 + 1 := by omega
      rw [e2]
      refine l3_eq (((k + 200 * d + 1) + 100 + 66) + 1) r out ?_ 31 0 l (by omega) (hl.same fun j hj => by rw [if_neg (by omega)])
      intro l' hl'
      cases out
      · rw [show (k + 200 * d + 1) + 100 + 66 + 1 = ((k + 200 * d + 1) + 165) + 2 by omega, l4_false]
        refine l2_up (ih l' ?_) 165
        unfold stb
        rw [← ho, if_neg (by decide), BitVec.xor_zero]
        exact hl'
      · rw [show (k + 200 * d + 1) + 100 + 66 + 1 = ((k + 200 * d + 1) + 101) + 2 * 32 + 2 by omega]
        refine l4_true _ (r >>> 1) ?_ 32 0 l' (by omega) (hl'.same fun j hj => by simp)
        intro l2' hl2
        refine l2_up (ih l2' ?_) 101
        unfold stb
        rw [← ho, if_pos rfl]
        exact hl2
    exact hstep _ rfl
theorem byt_runb (r : W32) (c : Int) (h0 : 0 ≤ c) (h1 : c < 256) : runb 8 r (BitVec.ofNat 32 (c.toNat >>> 0)) = byt r c := by
  obtain ⟨n, rfl⟩ := Int.eq_ofNat_of_zero_le h0
  rw [runb_eq 8 _ _ (by rw [Nat.shiftRight_zero, Int.toNat_natCast, BitVec.toNat_ofNat]; omega), Nat.shiftRight_zero, Int.toNat_natCast]
  rfl
theorem l5_eq (r : W32) (l : List Bool) (hl : Bits l r.getLsbD) : ∀ (i k : Nat), i ≤ 32 → i < k → l5 k l (((~~~ r) >>> i : W32).toNat : Int) ((i : Int) - 1) = some ((~~~ r : W32).toNat : Int)
  | 0, k, _, hk => by
    obtain ⟨k, rfl⟩ : ∃ m, k = m + 1 := ⟨k - 1, by omega⟩
    rw [l5, if_neg (by omega)]
    rfl
  | i + 1, k, hi, hk => by
    obtain ⟨k, rfl⟩ : ∃ m, k = m + 1 := ⟨k - 1, by omega⟩
    rw [l5, show (((i + 1 : Nat) : Int) - 1) = (i : Int) by omega, if_pos (by omega), if_pos hl.1, if_pos (by omega), if_pos (by rw [hl.1]; omega), rdOf, Int.toNat_natCast, hl.2 i (by omega), w64 (by omega) (by omega)]
    have hb := ((~~~ r) >>> i : W32).isLt
    have hd : ((~~~ r) >>> (i + 1) : W32).toNat = ((~~~ r) >>> i : W32).toNat / 2 := by
      rw [BitVec.toNat_ushiftRight, BitVec.toNat_ushiftRight, Nat.shiftRight_succ]
    have hm : ((~~~ r) >>> i : W32).toNat % 2 = if r.getLsbD i then 0 else 1 := by
      have h1 : ((~~~ r) >>> i : W32).getLsbD 0 = !r.getLsbD i := by
        rw [BitVec.getLsbD_ushiftRight, BitVec.getLsbD_not]
        simp; omega
      have h2 : ((~~~ r) >>> i : W32).getLsbD 0 = ((~~~ r) >>> i : W32).toNat.testBit 0 := rfl
      have h3 := h2.symm.trans h1
      rw [Nat.testBit_zero] at h3
      clear h1 h2 hd hb
      generalize ((~~~ r) >>> i : W32).toNat = m at h3 ⊢
      cases e : r.getLsbD i
      · rw [e] at h3
        rw [if_neg (by decide)]
        exact of_decide_eq_true h3
      · rw [e] at h3
        rw [if_pos rfl]
        have := of_decide_eq_false h3
        omega
    have ih := l5_eq r l hl i k (by omega) (by omega)
    rw [hd]
    generalize ((~~~ r) >>> i : W32).toNat = m at *
    cases e : r.getLsbD i
    · rw [e, if_neg (by decide)] at hm
      rw [if_neg (by decide), show (2 * ((m / 2 : Nat) : Int) % 4294967296 + 1) % 4294967296 = (m : Int) by omega]
      exact ih
    · rw [e, if_pos rfl] at hm
      rw [if_pos rfl, show (2 * ((m / 2 : Nat) : Int) % 4294967296) = (m : Int) by omega]
      exact ih
theorem l1_eq (hs : x1.size ≤ 140737488355328) (rr : W32) : ∀ (d i k : Nat) (r : W32) (l : List Bool), i + d = x1.size → 2000 * d + 100 < k → crcs r ((bytesOf x1).drop i) = rr → Bits l r.getLsbD → l1 k x1 l (i : Int) = some ((~~~ rr : W32).toNat : Int)
  | 0, i, k, r, l, hi, hk, hr, hl => by
    obtain ⟨k, rfl⟩ : ∃ m, k = m + 1 := ⟨k - 1, by omega⟩
    rw [l1, if_neg (by omega)]
    rw [List.drop_of_length_le (by rw [bytesOf_length]; omega)] at hr
    have e : r = rr := hr
    subst e
    have := l5_eq r l hl 32 k (by omega) (by omega)
    rw [show (((~~~ r) >>> 32 : W32).toNat : Int) = 0 by rw [BitVec.toNat_ushiftRight, Nat.shiftRight_eq_div_pow]; have := (~~~ r : W32).isLt; omega] at this
    exact this
  | d + 1, i, k, r, l, hi, hk, hr, hl => by
    obtain ⟨k, rfl⟩ : ∃ m, k = (m + 200 * 8 + 1) + 1 := ⟨k - 1602, by omega⟩
    rw [l1, if_pos (by omega)]
    have hil : i < (bytesOf x1).length := by rw [bytesOf_length]; omega
    have hm := bytesOf_mem x1 _ (List.getElem_mem hil)
    have hb : bt x1 (i : Int) = (bytesOf x1)[i] := by
      rw [bt, dif_pos (by rw [Int.toNat_natCast]; omega)]
      simp [bytesOf]
      rfl
    rw [List.drop_eq_getElem_cons hil] at hr
    refine l2_eq i (by omega) k (byt r (bytesOf x1)[i]) ?_ 8 0 r l (by omega) ?_ hl
    · intro l' hl'
      rw [w64 (by omega) (by omega), show ((i : Int) + 1) = ((i + 1 : Nat) : Int) by omega]
      exact l1_eq hs rr d (i + 1) k _ l' (by omega) (by omega) hr hl'
    · rw [hb]
      exact byt_runb r _ hm.1 hm.2
end
theorem l0_eq (sum : W32) (x1 : ByteArray) (k : Nat) (q : Int) (hq : ∀ l, Bits l (~~~ sum).getLsbD → l1 k x1 l 0 = some q) :
    ∀ (d i : Nat) (l : List Bool), i + d = 32 → Bits l (fun j => decide (j < i) && (~~~ sum).getLsbD j) → l0 (k + d + 1) (sum.toNat : Int) x1 l (i : Int) = some q
  | 0, i, l, hi, hl => by
    rw [l0, if_neg (by omega)]
    exact hq l (hl.same fun j hj => by rw [show decide (j < i) = true from decide_eq_true (by omega), Bool.true_and])
  | d + 1, i, l, hi, hl => by
    rw [l0, if_pos (by omega), if_pos (by omega), if_pos hl.1, if_pos (by rw [hl.1]; omega), bit_of _ _ _ (by show i ≤ 32; omega), w1 (by omega), Int.toNat_natCast, show k + (d + 1) = k + d + 1 by omega]
    refine l0_eq sum x1 k q hq d (i + 1) _ (by omega) (hl.set i _ (by omega) fun j hj => ?_)
    by_cases hj2 : j = i
    · subst hj2
      rw [if_pos rfl, show decide (j < j + 1) = true from decide_eq_true (by omega), Bool.true_and, BitVec.getLsbD_not, show decide (j < 32) = true from decide_eq_true hj, Bool.true_and, show sum.getLsbD j = sum.toNat.testBit j from rfl]
      cases sum.toNat.testBit j <;> rfl
    · rw [if_neg hj2, show decide (j < i + 1) = decide (j < i) from decide_eq_decide.2 (by omega)]
theorem RefMore_eq (k : Nat) (sum : W32) (s : ByteArray) (hs : s.size ≤ 140737488355328) (hk : 2000 * s.size + 200 < k) : palaverref08_More.f k (sum.toNat : Int) s = some ((more sum s).toNat : Int) := by
  unfold palaverref08_More.f
  obtain ⟨m, rfl⟩ : ∃ m, k = m + 32 + 1 := ⟨k - 33, by omega⟩
  refine l0_eq sum s m _ ?_ 32 0 _ (by omega) ⟨List.length_replicate, fun j hj => by rw [List.getD_eq_getElem?_getD, List.getElem?_replicate, if_pos hj]; show false = (decide (j < 0) && _); rw [show decide (j < 0) = false from decide_eq_false (by omega), Bool.false_and]⟩
  intro l hl
  exact l1_eq hs (crcs (~~~ sum) (bytesOf s)) s.size 0 m (~~~ sum) l (by omega) (by omega) (by rw [List.drop_zero]) hl
end Go.Proofs.Ytippjfgjehfhhaa.Oct
