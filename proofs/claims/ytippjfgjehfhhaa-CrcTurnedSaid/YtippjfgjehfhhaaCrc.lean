import Derived.Test.YtippjfgjehfhhaaOct2
import Derived.Test.YtippjfgjehfhhaaPPx1
import Derived.Test.YtippjfgjehfhhaaPPx2
/-! crc: what it computes, in plain words. -/
namespace Go.Proofs.Ytippjfgjehfhhaa.Oct
open Go.RowKit Go.Proofs.Ytippjfgjehfhhaa.PP Go.Proofs.YtippjfgjehfhhaaW.PrintWords Go.Proofs.YtippjfgjehfhhaaW.PrintLast Go.Proofs.YtippjfgjehfhhaaW.PrintMore
set_option linter.unusedSimpArgs false
set_option linter.unusedVariables false

abbrev W32 := BitVec 32
def poly : W32 := 0xedb88320#32
/-- One step of the register. -/
def stp (r : W32) : W32 := (r >>> 1) ^^^ (poly &&& -(r &&& 1#32))
/-- One byte. -/
def byt (r : W32) (c : Int) : W32 := stp (stp (stp (stp (stp (stp (stp (stp (r ^^^ BitVec.ofInt 32 c))))))))
def crcs (r : W32) (l : List Int) : W32 := l.foldl byt r
/-- The sum of bytes behind bytes of a sum. -/
def more (sum : W32) (s : ByteArray) : W32 := ~~~ (crcs (~~~ sum) (bytesOf s))

theorem ofInt_toNat (v : W32) : BitVec.ofInt 32 (v.toNat : Int) = v := by simp
theorem wrap_toNat (v : W32) : IntKind.u32.wrap (v.toNat : Int) = v.toNat := by
  have := v.isLt
  rw [IntKind.wrap_u32]
  omega
theorem xor_bv (a b : Int) : Go.bits .xor .u32 a b = ((BitVec.ofInt 32 a ^^^ BitVec.ofInt 32 b : W32).toNat : Int) := wrap_toNat _
theorem and_bv (a b : Int) : Go.bits .and .u32 a b = ((BitVec.ofInt 32 a &&& BitVec.ofInt 32 b : W32).toNat : Int) := wrap_toNat _
theorem half_bv (v : W32) : (v.toNat : Int) / (2 : Int) = ((v >>> 1 : W32).toNat : Int) := by
  rw [BitVec.toNat_ushiftRight, Nat.shiftRight_eq_div_pow]
  omega
theorem neg_bv (v : W32) : BitVec.ofInt 32 ((-(v.toNat : Int)) % 4294967296) = -v := by
  apply BitVec.eq_of_toNat_eq
  rw [BitVec.toNat_ofInt, BitVec.toNat_neg]
  have := v.isLt
  omega
theorem not_bv (v : W32) : BitVec.ofInt 32 4294967295 ^^^ v = ~~~ v := by
  rw [show BitVec.ofInt 32 4294967295 = BitVec.allOnes 32 by decide, BitVec.allOnes_xor]
theorem mod_bv (c : Int) (h0 : 0 ≤ c) (h1 : c < 256) : c % 4294967296 = c := by omega
theorem step_bv (r : W32) : Go.bits .xor .u32 ((r.toNat : Int) / 2) (Go.bits .and .u32 3988292384 ((-(Go.bits .and .u32 (r.toNat : Int) 1)) % 4294967296)) = ((stp r).toNat : Int) := by
  rw [and_bv (r.toNat : Int) 1, ofInt_toNat, and_bv 3988292384, neg_bv, half_bv, xor_bv, ofInt_toNat, ofInt_toNat]
  rfl
theorem more_l1 (k : Nat) (r : W32) (l : List Int) (n i : Int) :
    crc_More.l1 (k + 9) (r.toNat : Int) l n i 0 = crc_More.l0 k ((stp (stp (stp (stp (stp (stp (stp (stp r))))))) : W32).toNat : Int) l n (wrap64 (i + 1)) := by
  have w : ∀ j : Int, 0 ≤ j → j < 8 → wrap64 (j + 1) = j + 1 := fun j h0 h1 => w64 (by omega) (by omega)
  have one : ∀ (k : Nat) (r : W32) (j : Int), 0 ≤ j → j < 8 → crc_More.l1 (k + 1) (r.toNat : Int) l n i j = crc_More.l1 k ((stp r).toNat : Int) l n i (j + 1) := fun k r j h0 h1 => by
    rw [crc_More.l1, if_pos (by omega), step_bv, w j h0 h1]
  rw [one (k + 8) _ 0 (by omega) (by omega), one (k + 7) _ (0 + 1) (by omega) (by omega), one (k + 6) _ (0 + 1 + 1) (by omega) (by omega), one (k + 5) _ (0 + 1 + 1 + 1) (by omega) (by omega), one (k + 4) _ (0 + 1 + 1 + 1 + 1) (by omega) (by omega), one (k + 3) _ (0 + 1 + 1 + 1 + 1 + 1) (by omega) (by omega), one (k + 2) _ (0 + 1 + 1 + 1 + 1 + 1 + 1) (by omega) (by omega), one (k + 1) _ (0 + 1 + 1 + 1 + 1 + 1 + 1 + 1) (by omega) (by omega), crc_More.l1, if_neg (by omega)]
theorem more_loop (l : List Int) (hl : l.length ≤ 140737488355328) (hc : ∀ c ∈ l, 0 ≤ c ∧ c < 256) :
    ∀ (d k i : Nat) (r : W32), i + d = l.length → 10 * d < k → crc_More.l0 k (r.toNat : Int) l (l.length : Int) (i : Int) = some (((~~~ (crcs r (l.drop i)) : W32).toNat : Int))
  | 0, k, i, r, hi, hk => by
    obtain ⟨k, rfl⟩ : ∃ m, k = m + 1 := ⟨k - 1, by omega⟩
    rw [crc_More.l0, if_neg (by omega), List.drop_of_length_le (by omega), xor_bv, ofInt_toNat, not_bv]
    rfl
  | d + 1, k, i, r, hi, hk => by
    obtain ⟨k, rfl⟩ : ∃ m, k = m + 10 := ⟨k - 10, by omega⟩
    have hil : i < l.length := by omega
    have hm := hc l[i] (List.getElem_mem hil)
    have hr : rd l (i : Int) = l[i] := by simp [rd, List.getD_eq_getElem?_getD, List.getElem?_eq_getElem hil]
    rw [crc_More.l0, if_pos (by omega), if_pos (by omega), if_pos (by omega), hr, mod_bv _ hm.1 hm.2, xor_bv, ofInt_toNat, more_l1, w64 (by omega) (by omega)]
    have := more_loop l hl hc d k (i + 1) (byt r l[i]) (by omega) (by omega)
    rw [show ((i : Int) + 1) = ((i + 1 : Nat) : Int) by omega]
    refine this.trans ?_
    rw [List.drop_eq_getElem_cons hil]
    rfl
theorem More_eq (k : Nat) (sum : W32) (s : ByteArray) (hs : s.size ≤ 140737488355328) (hk : 10 * s.size < k) : crc_More.f k (sum.toNat : Int) s = some ((more sum s).toNat : Int) := by
  unfold crc_More.f
  rw [if_pos (by omega)]
  simp only [Option.bind_some]
  rw [xor_bv, ofInt_toNat, not_bv]
  have := more_loop (bytesOf s) (by rw [bytesOf_length]; omega) (bytesOf_mem s) (bytesOf s).length k 0 (~~~ sum) (by omega) (by rw [bytesOf_length]; omega)
  rw [List.drop_zero] at this
  exact this
/-- The sum of bytes. -/
def sum (s : ByteArray) : W32 := more 0#32 s
theorem Sum_eq (k : Nat) (s : ByteArray) (hs : s.size ≤ 140737488355328) (hk : 10 * s.size < k) : crc_Sum.f k s = some ((sum s).toNat : Int) := by
  unfold crc_Sum.f
  have := More_eq k 0#32 s hs hk
  rw [show (((0#32 : W32).toNat : Nat) : Int) = 0 from rfl] at this
  rw [this]
  rfl
theorem crcs_app (r : W32) (a b : List Int) : crcs r (a ++ b) = crcs (crcs r a) b := List.foldl_append ..
theorem more_app (r : W32) (a b : ByteArray) : more (more r a) b = more r (a ++ b) := by
  unfold more
  rw [BitVec.not_not, bytesOf_app, crcs_app]
/-- A number in four bytes. -/
def four (n : Int) : ByteArray := strOfNums [n / 16777216, n / 65536 % 256, n / 256 % 256, n % 256]
theorem four_size (n : Int) : (four n).size = 4 := by unfold four; rw [strOfNums_size]; rfl
theorem four_val (n : Int) (h0 : 0 ≤ n) (h1 : n < 4294967296) : bv 0 (bytesOf (four n)) = n := by
  unfold four
  rw [bytesOf_nums _ (by intro c hc; simp at hc; omega), bv_four]
theorem Long_eq (k : Nat) (n : Int) (h0 : 0 ≤ n) (h1 : n < 4294967296) (hk : 7 ≤ k) : octets_Long.f k n = some (four n, true) := by
  obtain ⟨m, rfl⟩ : ∃ m, k = m + 7 := ⟨k - 7, by omega⟩
  unfold octets_Long.f
  rw [laid4 m n h0 h1]
  rfl
/-- What is sealed. -/
def sealed (s : ByteArray) : ByteArray := four s.size ++ four (sum s).toNat ++ s
theorem sealed_size (s : ByteArray) : (sealed s).size = 8 + s.size := by unfold sealed; rw [app_size, app_size, four_size, four_size]
theorem Sealed_eq (k : Nat) (s : ByteArray) (hk : 10 * s.size + 10 < k) (hs : s.size ≤ 140737488355328) : crc_Sealed.f k s = if (s.size : Int) > 65535 then some (⟨#[]⟩, false) else some (sealed s, true) := by
  unfold crc_Sealed.f
  split
  · rfl
  · have hb := (sum s).isLt
    rw [Long_eq k _ (by omega) (by omega) (by omega), Sum_eq k s (by omega) (by omega), Option.bind_some, Option.bind_some, w64 (n := ((sum s).toNat : Int)) (by omega) (by omega), Long_eq k _ (by omega) (by omega) (by omega), Option.bind_some]
    rw [if_pos (by rw [four_size, four_size]; omega), if_pos (by rw [app_size, four_size, four_size]; omega)]
    rfl
/-- What Open answers. -/
def opened (s : ByteArray) : ByteArray × Int × Bool :=
  let a := take s false 4
  let b := take a.2.1 a.2.2 4
  let n := bv 0 (bytesOf a.1)
  if n > 65535 then (⟨#[]⟩, 0, false) else
    let c := take b.2.1 b.2.2 n
    if c.2.2 = false ∧ ((sum c.1).toNat : Int) = bv 0 (bytesOf b.1) then (c.1, 8 + n, true) else (⟨#[]⟩, 0, false)
theorem bv_nonneg : ∀ (l : List Int) (x : Int), 0 ≤ x → (∀ c ∈ l, 0 ≤ c ∧ c < 256) → 0 ≤ bv x l
  | [], x, hx, _ => hx
  | c :: l, x, hx, h => bv_nonneg l (x * 256 + c) (by have := h c (by simp); omega) (fun d hd => h d (by simp [hd]))
theorem take_le (s : ByteArray) (b : Bool) (n : Int) : (take s b n).1.size ≤ s.size := by
  unfold take
  split
  · show 0 ≤ _; omega
  · simp only [ByteArray.size_extract]; omega
theorem take_rest_le (s : ByteArray) (b : Bool) (n : Int) : (take s b n).2.1.size ≤ s.size := by
  unfold take
  split
  · exact Nat.le_refl _
  · simp only [ByteArray.size_extract]; omega
theorem Open_eq (k : Nat) (s : ByteArray) (hs : s.size ≤ 140737488355328) (hk : 10 * s.size + 10 < k) : crc_Open.f k s = some (opened s) := by
  unfold crc_Open.f opened
  obtain ⟨m, rfl⟩ : ∃ m, k = m + 1 := ⟨k - 1, by omega⟩
  rw [octets_Read.f, Option.bind_some, rLong_eq (m + 1) _ _ (by omega), Option.bind_some, rLong_eq (m + 1) _ _ (by omega), Option.bind_some]
  dsimp only
  have hn := bv_nonneg (bytesOf (take s false 4).1) 0 (by omega) (bytesOf_mem _)
  by_cases hn2 : bv 0 (bytesOf (take s false 4).1) > 65535
  · rw [if_pos hn2, if_pos hn2]
  · rw [if_neg hn2, if_neg hn2, Take_eq, Option.bind_some, octets_Reader_Good.f, Option.bind_some]
    have h1 := take_rest_le s false 4
    have h2 := take_rest_le (take s false 4).2.1 (take s false 4).2.2 4
    generalize bv 0 (bytesOf (take s false 4).1) = n at *
    generalize take (take s false 4).2.1 (take s false 4).2.2 4 = b at *
    have h3 := take_le b.2.1 b.2.2 n
    generalize take b.2.1 b.2.2 n = c at *
    obtain ⟨c1, c2, c3⟩ := c
    cases c3
    · have hb := (sum c1).isLt
      dsimp only at h3 ⊢
      rw [if_pos (show (!false) = true from rfl), Sum_eq (m + 1) c1 (by omega) (by omega), Option.bind_some, w64 (n := ((sum c1).toNat : Int)) (by omega) (by omega), w64 (n := 8 + n) (by omega) (by omega)]
      by_cases he : ((sum c1).toNat : Int) = bv 0 (bytesOf b.1)
      · rw [if_pos he, if_pos ⟨rfl, he⟩]
      · rw [if_neg he, if_neg (fun h => he h.2)]
    · dsimp only
      rw [if_neg (by decide), if_neg (fun h => by cases h.1)]
theorem opened_sealed (s more : ByteArray) (hs : s.size ≤ 65535) : opened (sealed s ++ more) = (s, 8 + (s.size : Int), true) := by
  have hb := (sum s).isLt
  have e : sealed s ++ more = four s.size ++ (four (sum s).toNat ++ (s ++ more)) := by
    unfold sealed
    apply ba_ext
    simp only [data_app, List.append_assoc]
  unfold opened
  rw [e, take_app _ _ 4 (by rw [four_size]; rfl)]
  simp only
  rw [take_app _ _ 4 (by rw [four_size]; rfl), four_val _ (by omega) (by omega)]
  simp only
  rw [if_neg (by omega), take_app _ _ _ rfl, four_val _ (by omega) (by omega)]
  simp
theorem opened_cut (s : ByteArray) (m : Nat) (hs : s.size ≤ 65535) (hm : m < 8 + s.size) : (opened ((sealed s).extract 0 m)).2.2 = false := by
  have hz : ((sealed s).extract 0 m).size = m := by
    have := sealed_size s
    simp only [ByteArray.size_extract]
    omega
  unfold opened
  by_cases h4 : m < 4
  · rw [take_short _ _ 4 (by omega)]
    simp only [take_bad]
    split <;> simp
  · rw [take_ok _ 4 (by omega) (by omega)]
    have e : bytesOf (((sealed s).extract 0 m).extract 0 (4 : Int).toNat) = bytesOf (four s.size) := by
      rw [bytesOf_ext, bytesOf_ext]
      unfold sealed
      rw [bytesOf_app, bytesOf_app]
      simp only [List.drop_zero, List.take_take]
      rw [show min (4 : Int).toNat m = 4 by simp; omega, List.append_assoc, List.take_left' (by rw [bytesOf_length, four_size])]
    simp only
    rw [e, four_val _ (by omega) (by omega), if_neg (by omega)]
    have h1 : ((((sealed s).extract 0 m).extract (4 : Int).toNat ((sealed s).extract 0 m).size).size : Int) = m - 4 := by
      rw [ByteArray.size_extract, hz]
      simp
      omega
    by_cases h8 : m < 8
    · rw [take_short _ _ 4 (by omega)]
      simp only [take_bad]
      simp
    · rw [take_ok _ 4 (by omega) (by omega)]
      simp only
      rw [take_short _ _ _ (by rw [ByteArray.size_extract]; simp only [ByteArray.size_extract] at h1 ⊢; omega)]
      simp
theorem awake8_eq (k : Nat) (hk : 1000 ≤ k) : palaverlaw08_awake.f k = some true := by
  unfold palaverlaw08_awake.f
  rw [Sealed_eq k _ (by show 10 * 9 + 10 < k; omega) (by decide), if_neg (by decide)]
  simp only [Option.bind_some]
  rw [if_pos (by rw [sealed_size]; decide), Open_eq k _ (by rw [app_size, sealed_size]; decide) (by rw [app_size, sealed_size]; show 10 * (8 + 9 + 1) + 10 < k; omega), opened_sealed _ _ (by decide), Sum_eq k _ (by decide) (by show 10 * 9 < k; omega)]
  simp only [Option.bind_some]
  rw [if_pos (by decide +kernel), if_pos trivial, if_pos trivial, if_pos (by decide +kernel)]
  rfl
end Go.Proofs.Ytippjfgjehfhhaa.Oct
