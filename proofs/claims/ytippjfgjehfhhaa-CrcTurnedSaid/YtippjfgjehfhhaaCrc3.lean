/-
  The sum's register: linear, and it forgets nothing; bits turned side by side.
  Conditions: none.
-/
import Derived.Test.YtippjfgjehfhhaaCrc
namespace Go.Proofs.Ytippjfgjehfhhaa.Oct
open Go.RowKit Go.Proofs.Ytippjfgjehfhhaa.PP Go.Proofs.YtippjfgjehfhhaaW.PrintWords Go.Proofs.YtippjfgjehfhhaaW.PrintLast Go.Proofs.YtippjfgjehfhhaaW.PrintMore
set_option linter.unusedSimpArgs false
set_option linter.unusedVariables false

theorem low_bit (r : W32) : -(r &&& 1#32) = if r.getLsbD 0 = true then 0xffffffff#32 else 0#32 := by
  have h : r &&& 1#32 = if r.getLsbD 0 = true then 1#32 else 0#32 := by
    apply BitVec.eq_of_getLsbD_eq
    intro i hi
    rw [BitVec.getLsbD_and]
    by_cases h0 : i = 0
    · subst h0
      cases r.getLsbD 0 <;> rfl
    · have e : (1#32).getLsbD i = false := by
        rw [BitVec.getLsbD_one]
        simp
        omega
      rw [e, Bool.and_false]
      split
      · exact e.symm
      · simp
  rw [h]
  split <;> rfl
theorem stp_if (r : W32) : stp r = (r >>> 1) ^^^ (if r.getLsbD 0 = true then poly else 0#32) := by
  unfold stp
  rw [low_bit]
  split <;> rfl
theorem stp_lin (a b : W32) : stp (a ^^^ b) = stp a ^^^ stp b := by
  rw [stp_if, stp_if, stp_if, BitVec.ushiftRight_xor_distrib, BitVec.getLsbD_xor]
  apply BitVec.eq_of_getLsbD_eq
  intro i hi
  simp only [BitVec.getLsbD_xor]
  generalize (a >>> 1).getLsbD i = x
  generalize (b >>> 1).getLsbD i = y
  have hz : (0#32 : W32).getLsbD i = false := BitVec.getLsbD_zero
  cases a.getLsbD 0 <;> cases b.getLsbD 0 <;> simp only [Bool.xor_true, Bool.xor_false, Bool.not_true, Bool.not_false, if_true, if_false, Bool.false_eq_true, hz] <;> cases x <;> cases y <;> cases poly.getLsbD i <;> rfl
theorem stp_zero : stp 0#32 = 0#32 := by decide
theorem stp_inj (r : W32) (h : stp r = 0#32) : r = 0#32 := by
  rw [stp_if] at h
  have h31 : r.getLsbD 0 = false := by
    have := congrArg (fun v : W32 => v.getLsbD 31) h
    simp only [BitVec.getLsbD_xor] at this
    cases c : r.getLsbD 0 with
    | false => rfl
    | true =>
      rw [c] at this
      simp at this
      revert this
      decide
  rw [h31] at h
  simp at h
  apply BitVec.eq_of_getLsbD_eq
  intro i hi
  by_cases h0 : i = 0
  · subst h0
    rw [h31]
    simp
  · have := congrArg (fun v : W32 => v.getLsbD (i - 1)) h
    simp only [BitVec.getLsbD_ushiftRight] at this
    rw [show 1 + (i - 1) = i by omega] at this
    simpa using this
def sn : Nat → W32 → W32
  | 0, r => r
  | n + 1, r => sn n (stp r)
theorem sn_lin : ∀ (n : Nat) (a b : W32), sn n (a ^^^ b) = sn n a ^^^ sn n b
  | 0, _, _ => rfl
  | n + 1, a, b => by
    show sn n (stp (a ^^^ b)) = _
    rw [stp_lin, sn_lin n]
    rfl
theorem sn_inj : ∀ (n : Nat) (r : W32), sn n r = 0#32 → r = 0#32
  | 0, _, h => h
  | n + 1, r, h => stp_inj r (sn_inj n (stp r) h)
theorem sn_add : ∀ (n m : Nat) (r : W32), sn m (sn n r) = sn (n + m) r
  | 0, m, r => by rw [Nat.zero_add]; rfl
  | n + 1, m, r => by
    rw [show n + 1 + m = (n + m) + 1 by omega]
    exact sn_add n m (stp r)
theorem stp_two (i : Nat) (h : i + 1 < 32) : stp (BitVec.ofNat 32 (2 ^ (i + 1))) = BitVec.ofNat 32 (2 ^ i) := by
  have : i = 0 ∨ i = 1 ∨ i = 2 ∨ i = 3 ∨ i = 4 ∨ i = 5 ∨ i = 6 ∨ i = 7 ∨ i = 8 ∨ i = 9 ∨ i = 10 ∨ i = 11 ∨ i = 12 ∨ i = 13 ∨ i = 14 ∨ i = 15 ∨ i = 16 ∨ i = 17 ∨ i = 18 ∨ i = 19 ∨ i = 20 ∨ i = 21 ∨ i = 22 ∨ i = 23 ∨ i = 24 ∨ i = 25 ∨ i = 26 ∨ i = 27 ∨ i = 28 ∨ i = 29 ∨ i = 30 := by omega
  rcases this with rfl | rfl | rfl | rfl | rfl | rfl | rfl | rfl | rfl | rfl | rfl | rfl | rfl | rfl | rfl | rfl | rfl | rfl | rfl | rfl | rfl | rfl | rfl | rfl | rfl | rfl | rfl | rfl | rfl | rfl | rfl <;> decide
theorem sn_two : ∀ (i n : Nat), i < 32 → i ≤ n → sn n (BitVec.ofNat 32 (2 ^ i)) = sn (n - i) 1#32
  | 0, n, _, _ => rfl
  | i + 1, 0, _, h => by omega
  | i + 1, n + 1, h, h2 => by
    show sn n (stp (BitVec.ofNat 32 (2 ^ (i + 1)))) = _
    rw [stp_two i h, sn_two i n (by omega) (by omega), show n + 1 - (i + 1) = n - i by omega]
theorem byt_sn (r : W32) (c : Int) : byt r c = sn 8 (r ^^^ BitVec.ofInt 32 c) := rfl
theorem byt_lin (a b : W32) (c : Int) : byt (a ^^^ b) c = byt a c ^^^ sn 8 b := by
  rw [byt_sn, byt_sn, ← sn_lin]
  congr 1
  rw [BitVec.xor_assoc, BitVec.xor_assoc, BitVec.xor_comm b]
theorem crcs_lin : ∀ (l : List Int) (a b : W32), crcs (a ^^^ b) l = crcs a l ^^^ sn (8 * l.length) b
  | [], _, _ => rfl
  | c :: l, a, b => by
    show crcs (byt (a ^^^ b) c) l = crcs (byt a c) l ^^^ sn (8 * (l.length + 1)) b
    rw [byt_lin, crcs_lin l, sn_add, show 8 + 8 * l.length = 8 * (l.length + 1) by omega]
theorem crcs_flip (r : W32) (l : List Int) (j q : Nat) (hj : j < l.length) (hq : q < 8) (c : Int) (hc : BitVec.ofInt 32 c = BitVec.ofInt 32 l[j] ^^^ BitVec.ofNat 32 (2 ^ q)) : crcs r (l.set j c) = crcs r l ^^^ sn (8 * (l.length - j) - q) 1#32 := by
  have e1 : l.set j c = l.take j ++ c :: l.drop (j + 1) := List.set_eq_take_append_cons_drop .. |>.trans (by rw [if_pos hj])
  have e2 : l = l.take j ++ l[j] :: l.drop (j + 1) := by
    rw [← List.drop_eq_getElem_cons hj, List.take_append_drop]
  have app : ∀ (u : List Int) (x : Int) (v : List Int), crcs r (u ++ x :: v) = crcs (byt (crcs r u) x) v := fun u x v => List.foldl_append ..
  rw [e1]
  conv => rhs; rw [show crcs r l = crcs r (l.take j ++ l[j] :: l.drop (j + 1)) from congrArg _ e2]
  rw [app, app]
  have h8 : byt (crcs r (l.take j)) c = byt (crcs r (l.take j)) l[j] ^^^ sn (8 - q) 1#32 := by
    rw [byt_sn, byt_sn, hc, ← BitVec.xor_assoc, sn_lin, sn_two q 8 (by omega) (by omega)]
  rw [h8, crcs_lin, sn_add, List.length_drop, show 8 - q + 8 * (l.length - (j + 1)) = 8 * (l.length - j) - q by omega]
/-- The bits that were turned so far, as a word. -/
theorem word_up (b : Nat) (i : Nat) (hi : i < 32) : BitVec.ofNat 32 (b % 2 ^ (i + 1)) = BitVec.ofNat 32 (b % 2 ^ i) ^^^ (if b / 2 ^ i % 2 = 1 then BitVec.ofNat 32 (2 ^ i) else 0#32) := by
  apply BitVec.eq_of_getLsbD_eq
  intro k hk
  rw [BitVec.getLsbD_xor, BitVec.getLsbD_ofNat, BitVec.getLsbD_ofNat]
  have h0 : decide (k < 32) = true := decide_eq_true hk
  rw [h0, Bool.true_and, Bool.true_and, Nat.testBit_mod_two_pow, Nat.testBit_mod_two_pow]
  have hb : b.testBit i = decide (b / 2 ^ i % 2 = 1) := Nat.testBit_eq_decide_div_mod_eq
  have hs : (if b / 2 ^ i % 2 = 1 then BitVec.ofNat 32 (2 ^ i) else 0#32).getLsbD k = (decide (k = i) && b.testBit i) := by
    rw [hb]
    split
    · rename_i h
      rw [BitVec.getLsbD_ofNat, h0, Bool.true_and, Nat.testBit_two_pow, decide_eq_true h, Bool.and_true]
      exact decide_eq_decide.2 ⟨fun e => e.symm, fun e => e.symm⟩
    · rename_i h
      rw [BitVec.getLsbD_zero, decide_eq_false h, Bool.and_false]
  rw [hs]
  by_cases c1 : k < i
  · rw [decide_eq_true (show k < i + 1 by omega), decide_eq_true c1, decide_eq_false (show ¬ k = i by omega)]
    simp
  · by_cases c2 : k = i
    · subst c2
      simp
    · rw [decide_eq_false (show ¬ k < i + 1 by omega), decide_eq_false c1, decide_eq_false c2]
      simp
end Go.Proofs.Ytippjfgjehfhhaa.Oct
