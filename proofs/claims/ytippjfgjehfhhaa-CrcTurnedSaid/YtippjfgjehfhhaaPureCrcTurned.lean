/-
  CrcTurned: bytes of which some bits are turned, all within 32 side by side, have another sum.
  Conditions: none of our own.
-/
import Derived.Test.YtippjfgjehfhhaaStCrcTurned
import Derived.Test.YtippjfgjehfhhaaCrc3
import Derived.Laws.BitsAllLaws
import Derived.Test.YtippjfgjehfhhaaPPx7
namespace Go.Proofs.Ytippjfgjehfhhaa.Oct
open Go.RowKit Go.Proofs.Ytippjfgjehfhhaa.PP Go.Proofs.YtippjfgjehfhhaaW.PrintWords Go.Proofs.YtippjfgjehfhhaaW.PrintLast Go.Proofs.YtippjfgjehfhhaaW.PrintMore
set_option linter.unusedSimpArgs false
set_option linter.unusedVariables false

theorem turned_bytes (l : List Int) (h : ∀ c ∈ l, 0 ≤ c ∧ c < 256) : bytesOf (strOfNums l) = l := by
  unfold bytesOf strOfNums
  simp only [List.map_map]
  conv => rhs; rw [← List.map_id l]
  apply List.map_congr_left
  intro c hc
  have := h c hc
  show (((UInt8.ofNat c.toNat).toNat : Nat) : Int) = c
  rw [UInt8.toNat_ofNat']
  omega
theorem turned_back (s : ByteArray) : strOfNums (bytesOf s) = s := by
  apply ba_ext
  unfold bytesOf strOfNums
  simp only [List.map_map]
  conv => rhs; rw [← List.map_id s.data.toList]
  apply List.map_congr_left
  intro c hc
  show UInt8.ofNat ((c.toNat : Int)).toNat = c
  rw [Int.toNat_natCast]
  exact UInt8.ofNat_toNat
theorem fl_len (n : Nat) (kk b : Int) : ∀ (d i : Nat) (xs : List Int), (palaverlaw08_CrcTurned.fl n kk b d i xs).length = xs.length
  | 0, _, _ => rfl
  | d + 1, i, xs => by
    rw [palaverlaw08_CrcTurned.fl]
    split
    · rw [fl_len n kk b d]
      split
      · unfold palaverlaw08_CrcTurned.flip
        rw [List.length_set]
      · rfl
    · rfl
theorem turned_size (s : ByteArray) (a b : Int) : (palaverlaw08_CrcTurned.out s a b).size = s.size := by
  unfold palaverlaw08_CrcTurned.out
  rw [strOfNums_size, fl_len, bytesOf_length]
theorem turn_byte (c : Int) (h0 : 0 ≤ c) (h1 : c < 256) (q : Nat) (hq : q < 8) : BitVec.ofInt 32 (Go.bits .xor .u8 c (2 ^ q % 256)) = BitVec.ofInt 32 c ^^^ BitVec.ofNat 32 (2 ^ q) ∧ 0 ≤ Go.bits .xor .u8 c (2 ^ q % 256) ∧ Go.bits .xor .u8 c (2 ^ q % 256) < 256 := by
  obtain ⟨m, rfl⟩ : ∃ m : Nat, c = (m : Int) := ⟨c.toNat, by omega⟩
  have hp : (2 : Nat) ^ q < 256 := by
    have : q = 0 ∨ q = 1 ∨ q = 2 ∨ q = 3 ∨ q = 4 ∨ q = 5 ∨ q = 6 ∨ q = 7 := by omega
    rcases this with rfl | rfl | rfl | rfl | rfl | rfl | rfl | rfl <;> decide
  have e0 : (2 : Int) ^ q = ((2 ^ q : Nat) : Int) := (Int.natCast_pow 2 q).symm
  have e : (2 : Int) ^ q % 256 = ((2 ^ q : Nat) : Int) := by
    rw [e0]
    clear e0
    generalize (2 : Nat) ^ q = z at hp
    omega
  clear e0
  rw [e, Go.u8_xor_nat m (2 ^ q) (by omega) hp]
  have hx : m ^^^ 2 ^ q < 2 ^ 8 := Nat.xor_lt_two_pow (by omega) hp
  generalize 2 ^ q = z at *
  refine ⟨by rw [BitVec.ofInt_natCast, BitVec.ofInt_natCast, BitVec.ofNat_xor], by omega, by omega⟩
theorem bit_eq (b i : Nat) : palaverlaw08_CrcTurned.bit (b : Int) i = decide (b / 2 ^ i % 2 = 1) := by
  unfold palaverlaw08_CrcTurned.bit
  have h1 : (b : Int) / 2 ^ i = ((b / 2 ^ i : Nat) : Int) := by rw [Int.natCast_ediv, Int.natCast_pow]; rfl
  rw [h1, Int.tmod_eq_emod_of_nonneg (Int.natCast_nonneg _)]
  generalize b / 2 ^ i = z
  rw [Bool.eq_iff_iff, beq_iff_eq, decide_eq_true_eq]
  omega
theorem bit_low (b i : Nat) : b % 2 ^ (i + 1) = b % 2 ^ i + 2 ^ i * (b / 2 ^ i % 2) := by
  rw [Nat.pow_succ, Nat.mod_mul]
theorem fl_inv (s : List Int) (n : Nat) (hn : s.length = n) (kk : Nat) (b : Nat) (r : W32) : ∀ (d i : Nat) (xs : List Int), i + d = 32 → xs.length = n → (∀ c ∈ xs, 0 ≤ c ∧ c < 256) → kk + i ≤ 8 * n → crcs r xs = crcs r s ^^^ sn (8 * n - kk) (BitVec.ofNat 32 (b % 2 ^ i)) → (b % 2 ^ i = 0 → xs = s) →
    ∃ m, m ≤ 32 ∧ crcs r (palaverlaw08_CrcTurned.fl n (kk : Int) (b : Int) d i xs) = crcs r s ^^^ sn (8 * n - kk) (BitVec.ofNat 32 (b % 2 ^ m)) ∧ (b % 2 ^ m = 0 → palaverlaw08_CrcTurned.fl n (kk : Int) (b : Int) d i xs = s) ∧ (∀ c ∈ palaverlaw08_CrcTurned.fl n (kk : Int) (b : Int) d i xs, 0 ≤ c ∧ c < 256)
  | 0, i, xs, h, hl, hr, hk, hc, hz => ⟨i, by omega, hc, hz, hr⟩
  | d + 1, i, xs, h, hl, hr, hk, hc, hz => by
    rw [palaverlaw08_CrcTurned.fl]
    by_cases c : (kk : Int) + (i : Int) < 8 * (n : Int)
    · rw [if_pos c, bit_eq]
      have hw := word_up b i (by omega)
      have hlow := bit_low b i
      have hpos : 0 < 2 ^ i := Nat.pow_pos (by decide)
      by_cases hb : b / 2 ^ i % 2 = 1
      · rw [if_pos (decide_eq_true hb)]
        rw [if_pos hb] at hw
        rw [hb, Nat.mul_one] at hlow
        unfold palaverlaw08_CrcTurned.flip
        have e1 : ((kk : Int) + (i : Int)) / 8 = (((kk + i) / 8 : Nat) : Int) := by omega
        have e2 : ((kk : Int) + (i : Int)) % 8 = (((kk + i) % 8 : Nat) : Int) := by omega
        rw [e1, e2, Int.toNat_natCast, Int.toNat_natCast]
        have hj : (kk + i) / 8 < xs.length := by omega
        have hrd : rd xs (((kk + i) / 8 : Nat) : Int) = xs[(kk + i) / 8] := by
          unfold rd
          rw [Int.toNat_natCast, List.getD_eq_getElem?_getD, List.getElem?_eq_getElem hj]
          rfl
        rw [hrd]
        have hx := hr _ (List.getElem_mem hj)
        obtain ⟨t1, t2, t3⟩ := turn_byte _ hx.1 hx.2 ((kk + i) % 8) (by omega)
        have hf := crcs_flip r xs ((kk + i) / 8) ((kk + i) % 8) hj (by omega) _ t1
        refine fl_inv s n hn kk b r d (i + 1) _ (by omega) (by rw [List.length_set]; exact hl) ?_ (by omega) ?_ (fun h0 => by omega)
        · intro z hzm
          rcases List.mem_or_eq_of_mem_set hzm with hzm | rfl
          · exact hr z hzm
          · exact ⟨t2, t3⟩
        · rw [hf, hc, hw, sn_lin, sn_two i (8 * n - kk) (by omega) (by omega), BitVec.xor_assoc, hl]
          congr 2
          congr 1
          omega
      · rw [if_neg (by simpa using hb)]
        rw [if_neg hb, BitVec.xor_zero] at hw
        have hb0 : b / 2 ^ i % 2 = 0 := by omega
        rw [hb0, Nat.mul_zero, Nat.add_zero] at hlow
        refine fl_inv s n hn kk b r d (i + 1) xs (by omega) hl hr (by omega) ?_ ?_
        · rw [hw]
          exact hc
        · rw [hlow]
          exact hz
    · rw [if_neg c]
      exact ⟨i, by omega, hc, hz, hr⟩
theorem sum_eq_of (r : W32) (u v : List Int) (h : ~~~ crcs r u = ~~~ crcs r v) : crcs r u = crcs r v := by
  have := congrArg (fun z : W32 => ~~~ z) h
  simpa using this
theorem turned_law (s : ByteArray) (h0 : ¬ s.size = 0) (a : Int) (b : Nat) (hb : b < 2 ^ 32) (hn : palaverlaw08_CrcTurned.out s a (b : Int) ≠ s) : sum (palaverlaw08_CrcTurned.out s a (b : Int)) ≠ sum s := by
  intro h
  apply hn
  unfold palaverlaw08_CrcTurned.out palaverlaw08_CrcTurned.kk at *
  have hk0 : 0 ≤ IntKind.u64.wrap a % (8 * (s.size : Int)) := Int.emod_nonneg _ (by omega)
  have hk1 : IntKind.u64.wrap a % (8 * (s.size : Int)) < 8 * (s.size : Int) := Int.emod_lt_of_pos _ (by omega)
  obtain ⟨kk, hkk⟩ : ∃ kk : Nat, IntKind.u64.wrap a % (8 * (s.size : Int)) = (kk : Int) := ⟨(IntKind.u64.wrap a % (8 * (s.size : Int))).toNat, by omega⟩
  rw [hkk] at h hk1 ⊢
  have hbl := bytesOf_length s
  obtain ⟨m, hm, h1, h2, h3⟩ := fl_inv (bytesOf s) s.size hbl kk b (~~~ 0#32) 32 0 (bytesOf s) (by omega) hbl (bytesOf_mem s) (by omega) (by
    have : sn (8 * s.size - kk) (0#32 : W32) = 0#32 := by
      have hz : ∀ q : Nat, sn q (0#32 : W32) = 0#32 := by
        intro q
        induction q with
        | zero => rfl
        | succ q ih =>
          show sn q (stp 0#32) = 0#32
          rw [stp_zero]
          exact ih
      exact hz _
    rw [Nat.pow_zero, Nat.mod_one, show BitVec.ofNat 32 0 = (0#32 : W32) from rfl, this, BitVec.xor_zero]) (fun _ => rfl)
  unfold sum more at h
  have hb2 : bytesOf (strOfNums (palaverlaw08_CrcTurned.fl s.size (kk : Int) (b : Int) 32 0 (bytesOf s))) = palaverlaw08_CrcTurned.fl s.size (kk : Int) (b : Int) 32 0 (bytesOf s) := turned_bytes _ h3
  rw [hb2] at h
  have h4 := sum_eq_of _ _ _ h
  rw [h1] at h4
  have h5 : sn (8 * s.size - kk) (BitVec.ofNat 32 (b % 2 ^ m)) = 0#32 := by
    have := congrArg (fun z : W32 => crcs (~~~ 0#32) (bytesOf s) ^^^ z) h4
    simpa [← BitVec.xor_assoc] using this
  have h6 := sn_inj _ _ h5
  have h7 : b % 2 ^ m = 0 := by
    have := congrArg BitVec.toNat h6
    have hlt : b % 2 ^ m ≤ b := Nat.mod_le _ _
    simp at this
    omega
  rw [h2 h7]
  exact turned_back s
theorem CrcTurned : palaverlaw08_CrcTurned.Stmt := by
  intro a0 a1 a2 h0 w1 w2
  have g2 : 0 ≤ a2 ∧ a2 < 4294967296 := by
    simp [Lit.wf] at w2
    have e1 : IntKind.u32.min = 0 := by decide
    have e2 : IntKind.u32.max = 4294967295 := by decide
    omega
  have aw : palaverlaw08_awake.f 70000 = some true := awake8_eq 70000 (by omega)
  refine ⟨70000, ?_⟩
  unfold palaverlaw08_CrcTurned.f
  by_cases c1 : a0.size = 0
  · rw [if_pos c1]
    exact aw
  rw [if_neg c1]
  by_cases c2 : 3000 < a0.size
  · rw [if_pos c2]
    exact aw
  rw [if_neg c2]
  by_cases c3 : a2 = 0
  · rw [if_pos c3]
    exact aw
  rw [if_neg c3]
  by_cases c4 : palaverlaw08_CrcTurned.out a0 a1 a2 = a0
  · rw [if_pos c4]
    exact aw
  rw [if_neg c4]
  obtain ⟨b, rfl⟩ : ∃ b : Nat, a2 = (b : Int) := ⟨a2.toNat, by omega⟩
  have hz := turned_size a0 a1 (b : Int)
  have hne := turned_law a0 c1 a1 b (by omega) c4
  rw [Sum_eq 70000 _ (by omega) (by omega), Sum_eq 70000 a0 (by omega) (by omega)]
  simp only [Option.bind_some]
  rw [if_neg (fun e => hne (BitVec.eq_of_toNat_eq (by omega)))]
  exact aw
end Go.Proofs.Ytippjfgjehfhhaa.Oct
namespace Go.Proofs.Ytippjfgjehfhhaa.Pure
open Go.Proofs.Ytippjfgjehfhhaa.PP
theorem CrcTurned : palaverlaw08_CrcTurned.Stmt := Oct.CrcTurned
end Go.Proofs.Ytippjfgjehfhhaa.Pure
