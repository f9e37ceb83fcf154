/-
  Texts of this proof, one behind the other: Oct OctB Oct2.
  Conditions: none.
-/
import Derived.Test.YtdodghifojkclaaGreatDoorPPx1
import Derived.Test.YtdodghifojkclaaGreatDoorPPx2
namespace Go.Proofs.YtdodghifojkclaaGreatDoor.Oct
open Go.RowKit Go.Proofs.YtdodghifojkclaaGreatDoor.PP Go.Proofs.YtdodghifojkclaaGreatDoorW.PrintWords Go.Proofs.YtdodghifojkclaaGreatDoorW.PrintLast Go.Proofs.YtdodghifojkclaaGreatDoorW.PrintMore
set_option linter.unusedSimpArgs false
set_option linter.unusedVariables false

theorem w64 {n : Int} (h0 : -9223372036854775808 ≤ n) (h1 : n ≤ 9223372036854775807) : wrap64 n = n := by unfold wrap64; omega
theorem toList_eq (a b : ByteArray) : a.toList = b.toList ↔ a = b := by
  rw [ByteArray.toList_eq, ByteArray.toList_eq]
  constructor
  · intro h
    cases a; cases b
    simp at h
    rw [h]
  · intro h; rw [h]
theorem empty_size : (⟨#[]⟩ : ByteArray).size = 0 := rfl

theorem ba_ext {a b : ByteArray} (h : a.data.toList = b.data.toList) : a = b := by
  cases a; cases b
  simp at h
  rw [h]
theorem data_app (a b : ByteArray) : (a ++ b).data.toList = a.data.toList ++ b.data.toList := by simp
theorem nums_app (a b : List Int) : strOfNums a ++ strOfNums b = strOfNums (a ++ b) := by
  apply ba_ext
  rw [data_app, strOfNums_data, strOfNums_data, strOfNums_data, List.map_append]
theorem app_nil (a : ByteArray) : a ++ (⟨#[]⟩ : ByteArray) = a := by
  apply ba_ext
  rw [data_app]
  simp
/-! numbers as bytes -/
theorem laid_no (k : Nat) (n s : Int) (h : n < 0) : Jr.f (k + 1) n s = some (⟨#[]⟩, false) := by
  unfold Jr.f
  rw [if_pos h]
  simp [Jr.j0]
theorem laid_big2 (k : Nat) (n : Int) (h0 : 0 ≤ n) (h : 65536 ≤ n) : Jr.f (k + 1) n 2 = some (⟨#[]⟩, false) := by
  have w2 : wrap64 (8 * 2) = 16 := w64 (by omega) (by omega)
  have e1 : shr .i64 n 16 = n / 65536 := rfl
  have e2 : (n / 65536 != 0) = true := by simp; omega
  unfold Jr.f
  rw [if_neg (by omega), w2, if_pos (by decide), e1, e2]
  simp [Jr.j0]
theorem laid_big4 (k : Nat) (n : Int) (h0 : 0 ≤ n) (h : 4294967296 ≤ n) : Jr.f (k + 1) n 4 = some (⟨#[]⟩, false) := by
  have w2 : wrap64 (8 * 4) = 32 := w64 (by omega) (by omega)
  have e1 : shr .i64 n 32 = n / 4294967296 := rfl
  have e2 : (n / 4294967296 != 0) = true := by simp; omega
  unfold Jr.f
  rw [if_neg (by omega), w2, if_pos (by decide), e1, e2]
  simp [Jr.j0]
theorem laid1 (k : Nat) (n : Int) (h0 : 0 ≤ n) (h1 : n < 256) : Jr.f (k + 4) n 1 = some (strOfNums [n], true) := by
  have e1 : shr .i64 n 8 = 0 := by show n / 256 = 0; omega
  have e3 : shr .i64 n 0 = n := by show n / 1 = n; omega
  have w0 : wrap64 (8 * 0) = 0 := w64 (by omega) (by omega)
  have w1 : wrap64 (8 * 1) = 8 := w64 (by omega) (by omega)
  have w3 : wrap64 (1 - 1) = 0 := w64 (by omega) (by omega)
  have w4 : wrap64 (0 - 0) = 0 := w64 (by omega) (by omega)
  have w6 : wrap64 (0 + 1) = 1 := w64 (by omega) (by omega)
  unfold Jr.f
  rw [if_neg (by omega), w1, if_pos (by decide), e1]
  simp only [Jr.j0, Jr.l0, w0, w3, w4, w6, e3]
  simp
  rw [show n % 256 = n by omega]
theorem laid2 (k : Nat) (n : Int) (h0 : 0 ≤ n) (h1 : n < 65536) : Jr.f (k + 5) n 2 = some (strOfNums [n / 256, n % 256], true) := by
  have e1 : shr .i64 n 16 = 0 := by show n / 65536 = 0; omega
  have e2 : shr .i64 n 8 = n / 256 := rfl
  have e3 : shr .i64 n 0 = n := by show n / 1 = n; omega
  have w0 : wrap64 (8 * 0) = 0 := w64 (by omega) (by omega)
  have w1 : wrap64 (8 * 1) = 8 := w64 (by omega) (by omega)
  have w2 : wrap64 (8 * 2) = 16 := w64 (by omega) (by omega)
  have w3 : wrap64 (2 - 1) = 1 := w64 (by omega) (by omega)
  have w4 : wrap64 (1 - 0) = 1 := w64 (by omega) (by omega)
  have w5 : wrap64 (1 - 1) = 0 := w64 (by omega) (by omega)
  have w6 : wrap64 (0 + 1) = 1 := w64 (by omega) (by omega)
  have w7 : wrap64 (1 + 1) = 2 := w64 (by omega) (by omega)
  unfold Jr.f
  rw [if_neg (by omega), w2, if_pos (by decide), e1]
  simp only [Jr.j0, Jr.l0, w0, w1, w3, w4, w5, w6, w7, e2, e3]
  simp
  rw [show n / 256 % 256 = n / 256 by omega]
theorem laid4 (k : Nat) (n : Int) (h0 : 0 ≤ n) (h1 : n < 4294967296) : Jr.f (k + 7) n 4 = some (strOfNums [n / 16777216, n / 65536 % 256, n / 256 % 256, n % 256], true) := by
  have e1 : shr .i64 n 32 = 0 := by show n / 4294967296 = 0; omega
  have e2 : shr .i64 n 8 = n / 256 := rfl
  have e4 : shr .i64 n 16 = n / 65536 := rfl
  have e5 : shr .i64 n 24 = n / 16777216 := rfl
  have e3 : shr .i64 n 0 = n := by show n / 1 = n; omega
  have w0 : wrap64 (8 * 0) = 0 := w64 (by omega) (by omega)
  have w1 : wrap64 (8 * 1) = 8 := w64 (by omega) (by omega)
  have w2 : wrap64 (8 * 2) = 16 := w64 (by omega) (by omega)
  have w2' : wrap64 (8 * 3) = 24 := w64 (by omega) (by omega)
  have w2'' : wrap64 (8 * 4) = 32 := w64 (by omega) (by omega)
  have w3 : wrap64 (4 - 1) = 3 := w64 (by omega) (by omega)
  have w4 : wrap64 (3 - 0) = 3 := w64 (by omega) (by omega)
  have w5 : wrap64 (3 - 1) = 2 := w64 (by omega) (by omega)
  have w5' : wrap64 (3 - 2) = 1 := w64 (by omega) (by omega)
  have w5'' : wrap64 (3 - 3) = 0 := w64 (by omega) (by omega)
  have w6 : wrap64 (0 + 1) = 1 := w64 (by omega) (by omega)
  have w7 : wrap64 (1 + 1) = 2 := w64 (by omega) (by omega)
  have w8 : wrap64 (2 + 1) = 3 := w64 (by omega) (by omega)
  have w9 : wrap64 (3 + 1) = 4 := w64 (by omega) (by omega)
  unfold Jr.f
  rw [if_neg (by omega), w2'', if_pos (by decide), e1]
  simp only [Jr.j0, Jr.l0, w0, w1, w2, w2', w3, w4, w5, w5', w5'', w6, w7, w8, w9, e2, e3, e4, e5]
  simp
  rw [show n / 16777216 % 256 = n / 16777216 by omega]

theorem bytesOf_mem (s : ByteArray) : ∀ c ∈ bytesOf s, 0 ≤ c ∧ c < 256 := by
  intro c hc
  unfold bytesOf at hc
  obtain ⟨b, _, rfl⟩ := List.mem_map.1 hc
  have := b.toNat_lt
  omega
/-! the document's numbers -/
theorem refN_step (k : Nat) (n size i : Int) (acc : ByteArray) (h0 : 0 ≤ n) (h1 : n ≤ 9223372036854775807) (hi : i < size) (hi0 : 0 ≤ i) (hs : size ≤ 8) (ha : acc.size ≤ 100) :
    Jc.l1 (k + 1) n size acc i = Jc.l1 k (n / 256) size (strOfNums [n % 256] ++ acc) (i + 1) := by
  rw [Jc.l1]
  have e1 : Int.tmod n 256 % 256 = n % 256 := by rw [Int.tmod_eq_emod_of_nonneg h0]; omega
  have e2 : wrap64 (Int.tdiv n 256) = n / 256 := by rw [Int.tdiv_eq_ediv_of_nonneg h0]; exact w64 (by omega) (by omega)
  have e3 : wrap64 (i + 1) = i + 1 := w64 (by omega) (by omega)
  rw [if_pos hi, e1, e2, e3]
  simp only [Option.bind_some]
  rw [if_pos (by rw [strOfNums_size]; simp; omega)]
theorem refN_end (k : Nat) (n size i : Int) (acc : ByteArray) (hi : ¬ i < size) : Jc.l1 (k + 1) n size acc i = some (acc, true) := by
  rw [Jc.l1, if_neg hi]
theorem ref_no (k : Nat) (n size : Int) : Jc.j1 (k + 1) n size true = some (⟨#[]⟩, false) := by simp [Jc.j1]
theorem ref_go (k : Nat) (n size : Int) : Jc.j1 (k + 1) n size false = Jc.l1 k n size ⟨#[]⟩ 0 := by simp [Jc.j1]
theorem ref_l0 (k : Nat) (n size m i : Int) (hi : i < size) (hi0 : 0 ≤ i) (hs : size ≤ 8) (hm : 0 ≤ m) (hm2 : m ≤ 4294967296) : Jc.l0 (k + 1) n size m i = Jc.l0 k n size (256 * m) (i + 1) := by
  rw [Jc.l0, if_pos hi, w64 (n := 256 * m) (by omega) (by omega), w64 (n := i + 1) (by omega) (by omega)]
theorem ref_l0_end (k : Nat) (n size m i : Int) (hi : ¬ i < size) : Jc.l0 (k + 1) n size m i = Jc.j1 k n size (decide (n < 0 ∨ n ≥ m)) := by
  rw [Jc.l0, if_neg hi]
  by_cases h : n < 0
  · simp [h]
  · rw [if_neg h]; simp [h]
theorem ref_one (k : Nat) (n : Int) (hn : n ≤ 9223372036854775807) : Jc.f (k + 6) n 1 = if n < 0 ∨ n ≥ 256 then some (⟨#[]⟩, false) else some (strOfNums [n], true) := by
  unfold Jc.f
  rw [ref_l0 _ _ _ _ _ (by omega) (by omega) (by omega) (by omega) (by omega), ref_l0_end _ _ _ _ _ (by omega)]
  by_cases h : n < 0 ∨ n ≥ 256
  · rw [if_pos h, decide_eq_true (by omega), ref_no]
  · rw [if_neg h, decide_eq_false (by omega), ref_go, refN_step _ _ _ _ _ (by omega) (by omega) (by omega) (by omega) (by omega) (by rw [empty_size]; omega), refN_end _ _ _ _ _ (by omega), app_nil, show n % 256 = n by omega]
theorem ref_two (k : Nat) (n : Int) (hn : n ≤ 9223372036854775807) : Jc.f (k + 8) n 2 = if n < 0 ∨ n ≥ 65536 then some (⟨#[]⟩, false) else some (strOfNums [n / 256, n % 256], true) := by
  unfold Jc.f
  rw [ref_l0 _ _ _ _ _ (by omega) (by omega) (by omega) (by omega) (by omega), ref_l0 _ _ _ _ _ (by omega) (by omega) (by omega) (by omega) (by omega), ref_l0_end _ _ _ _ _ (by omega)]
  by_cases h : n < 0 ∨ n ≥ 65536
  · rw [if_pos h, decide_eq_true (by omega), ref_no]
  · rw [if_neg h, decide_eq_false (by omega), ref_go, refN_step _ _ _ _ _ (by omega) (by omega) (by omega) (by omega) (by omega) (by rw [empty_size]; omega), app_nil, refN_step _ _ _ _ _ (by omega) (by omega) (by omega) (by omega) (by omega) (by rw [strOfNums_size]; simp), refN_end _ _ _ _ _ (by omega), nums_app]
    rw [show n / 256 % 256 = n / 256 by omega]
    rfl
theorem ref_four (k : Nat) (n : Int) (hn : n ≤ 9223372036854775807) : Jc.f (k + 12) n 4 = if n < 0 ∨ n ≥ 4294967296 then some (⟨#[]⟩, false) else some (strOfNums [n / 16777216, n / 65536 % 256, n / 256 % 256, n % 256], true) := by
  unfold Jc.f
  rw [ref_l0 _ _ _ _ _ (by omega) (by omega) (by omega) (by omega) (by omega), ref_l0 _ _ _ _ _ (by omega) (by omega) (by omega) (by omega) (by omega), ref_l0 _ _ _ _ _ (by omega) (by omega) (by omega) (by omega) (by omega), ref_l0 _ _ _ _ _ (by omega) (by omega) (by omega) (by omega) (by omega), ref_l0_end _ _ _ _ _ (by omega)]
  by_cases h : n < 0 ∨ n ≥ 4294967296
  · rw [if_pos h, decide_eq_true (by omega), ref_no]
  · rw [if_neg h, decide_eq_false (by omega), ref_go, refN_step _ _ _ _ _ (by omega) (by omega) (by omega) (by omega) (by omega) (by rw [empty_size]; omega), app_nil,
      refN_step _ _ _ _ _ (by omega) (by omega) (by omega) (by omega) (by omega) (by rw [strOfNums_size]; simp), nums_app, refN_step _ _ _ _ _ (by omega) (by omega) (by omega) (by omega) (by omega) (by rw [strOfNums_size]; simp), nums_app,
      refN_step _ _ _ _ _ (by omega) (by omega) (by omega) (by omega) (by omega) (by rw [strOfNums_size]; simp), nums_app, refN_end _ _ _ _ _ (by omega)]
    rw [show n / 256 / 256 / 256 % 256 = n / 16777216 by omega, show n / 256 / 256 % 256 = n / 65536 % 256 by omega]
    rfl
theorem short_eq (k : Nat) (n : Int) : Jr.f (k + 5) n 2 = if n < 0 ∨ n ≥ 65536 then some (⟨#[]⟩, false) else some (strOfNums [n / 256, n % 256], true) := by
  by_cases h : n < 0
  · rw [if_pos (Or.inl h), laid_no _ _ _ h]
  · by_cases h2 : n ≥ 65536
    · rw [if_pos (Or.inr h2), laid_big2 _ _ (by omega) (by omega)]
    · rw [if_neg (by omega), laid2 _ _ (by omega) (by omega)]
theorem long_eq (k : Nat) (n : Int) : Jr.f (k + 7) n 4 = if n < 0 ∨ n ≥ 4294967296 then some (⟨#[]⟩, false) else some (strOfNums [n / 16777216, n / 65536 % 256, n / 256 % 256, n % 256], true) := by
  by_cases h : n < 0
  · rw [if_pos (Or.inl h), laid_no _ _ _ h]
  · by_cases h2 : n ≥ 4294967296
    · rw [if_pos (Or.inr h2), laid_big4 _ _ (by omega) (by omega)]
    · rw [if_neg (by omega), laid4 _ _ (by omega) (by omega)]
end Go.Proofs.YtdodghifojkclaaGreatDoor.Oct

namespace Go.Proofs.YtdodghifojkclaaGreatDoor.Oct
open Go.RowKit Go.Proofs.YtdodghifojkclaaGreatDoor.PP Go.Proofs.YtdodghifojkclaaGreatDoorW.PrintWords Go.Proofs.YtdodghifojkclaaGreatDoorW.PrintLast Go.Proofs.YtdodghifojkclaaGreatDoorW.PrintMore
set_option linter.unusedSimpArgs false
set_option linter.unusedVariables false

theorem ext_data (s : ByteArray) (a b : Nat) : (s.extract a b).data.toList = (s.data.toList.take b).drop a := by
  simp [List.drop_take]
theorem u64w (n : Int) : IntKind.u64.wrap n = n % 18446744073709551616 := by simp [IntKind.wrap, IntKind.bits, IntKind.signed]
theorem size_len (s : ByteArray) : s.size = s.data.toList.length := by simp
theorem bytesOf_ext (s : ByteArray) (a b : Nat) : bytesOf (s.extract a b) = ((bytesOf s).take b).drop a := by
  unfold bytesOf
  rw [ext_data, List.map_drop, List.map_take]
theorem nums_bytes (s : ByteArray) : strOfNums (bytesOf s) = s := by
  apply ba_ext
  rw [strOfNums_data]
  unfold bytesOf
  rw [List.map_map]
  conv => rhs; rw [← List.map_id s.data.toList]
  refine List.map_congr_left fun c hc => ?_
  simp
theorem bytesOf_inj {a b : ByteArray} (h : bytesOf a = bytesOf b) : a = b := by rw [← nums_bytes a, h, nums_bytes]
theorem app_size (a b : ByteArray) : (a ++ b).size = a.size + b.size := by simp
/-- A text with its length. -/
def lay (s : ByteArray) : ByteArray := strOfNums [(s.size : Int) / 256, (s.size : Int) % 256] ++ s
theorem lay_size (s : ByteArray) : (lay s).size = 2 + s.size := by unfold lay; rw [app_size, strOfNums_size]; rfl
end Go.Proofs.YtdodghifojkclaaGreatDoor.Oct

namespace Go.Proofs.YtdodghifojkclaaGreatDoor.Oct
open Go.RowKit Go.Proofs.YtdodghifojkclaaGreatDoor.PP Go.Proofs.YtdodghifojkclaaGreatDoorW.PrintWords Go.Proofs.YtdodghifojkclaaGreatDoorW.PrintLast Go.Proofs.YtdodghifojkclaaGreatDoorW.PrintMore
set_option linter.unusedSimpArgs false
set_option linter.unusedVariables false

/-! what is read -/
/-- The next so many bytes, what is left, whether it is bad. -/
def take (s : ByteArray) (bad : Bool) (n : Int) : ByteArray × ByteArray × Bool :=
  if bad = true ∨ n < 0 ∨ n > (s.size : Int) then (⟨#[]⟩, s, true) else (s.extract 0 n.toNat, s.extract n.toNat s.size, false)
theorem Take_eq (k : Nat) (s : ByteArray) (bad : Bool) (n : Int) : Js.f (k + 1) s bad n = some (take s bad n) := by
  unfold Js.f take
  cases bad
  · by_cases h1 : n < 0
    · simp [h1, Js.j0]
    · by_cases h2 : n > (s.size : Int)
      · simp [h1, h2, Js.j0]
      · have h3 : n ≤ s.size := by omega
        have h4 : 0 ≤ n := by omega
        simp [h1, h2, h3, h4, Js.j0]
  · simp [Js.j0]
/-- The number of bytes. -/
def bv (x : Int) (l : List Int) : Int := l.foldl (fun n c => n * 256 + c) x
theorem or_add (x c : Int) (h0 : 0 ≤ x) (h1 : x < 36028797018963968) (c0 : 0 ≤ c) (c1 : c < 256) : Go.bits .or .i64 (wrap64 (x * 256)) (wrap64 c) = x * 256 + c := by
  rw [w64 (by omega) (by omega), w64 (by omega) (by omega)]
  refine bits_join .i64 63 (by decide) (fun n h0 h1 => ?_) 8 (x * 256) c (by omega) (by omega) (by omega) c0 (by omega) (by omega)
  rw [IntKind.wrap_i64]
  omega
theorem number_loop (l : List Int) (s : ByteArray) (bad : Bool) (hl : l.length ≤ 6) (hc : ∀ c ∈ l, 0 ≤ c ∧ c < 256) :
    ∀ (d k i : Nat) (x : Int), i + d = l.length → 0 ≤ x → x < 256 ^ i → d < k → Jy.l0 k x l (l.length : Int) (i : Int) s bad = some (bv x (l.drop i), s, bad)
  | 0, k, i, x, hi, h0, h1, hk => by
    obtain ⟨k, rfl⟩ : ∃ m, k = m + 1 := ⟨k - 1, by omega⟩
    rw [Jy.l0]
    rw [if_neg (by omega), List.drop_of_length_le (by omega)]
    rfl
  | d + 1, k, i, x, hi, h0, h1, hk => by
    obtain ⟨k, rfl⟩ : ∃ m, k = m + 1 := ⟨k - 1, by omega⟩
    rw [Jy.l0]
    have hil : i < l.length := by omega
    have hm := hc l[i] (List.getElem_mem hil)
    have hr : rd l (i : Int) = l[i] := by simp [rd, List.getD_eq_getElem?_getD, List.getElem?_eq_getElem hil]
    have hp : (256 : Int) ^ i ≤ 1099511627776 := by
      have h : (256 : Nat) ^ i ≤ 1099511627776 := Nat.le_trans (Nat.pow_le_pow_right (by decide) (show i ≤ 5 by omega)) (by decide)
      rw [show (256 : Int) ^ i = ((256 ^ i : Nat) : Int) by simp]
      omega
    have hx : x < 1099511627776 := by omega
    rw [if_pos (by omega), if_pos (by omega), if_pos (by omega), hr, or_add x l[i] h0 (by omega) hm.1 hm.2, w64 (by omega) (by omega)]
    have hs : x * 256 + l[i] < 256 ^ (i + 1) := by
      rw [Int.pow_succ]
      omega
    have := number_loop l s bad hl hc d k (i + 1) (x * 256 + l[i]) (by omega) (by omega) hs (by omega)
    rw [show ((i : Int) + 1) = ((i + 1 : Nat) : Int) by omega, this, List.drop_eq_getElem_cons hil]
    rfl
theorem take_size (s : ByteArray) (bad : Bool) (n : Int) (m : Nat) (hn : n ≤ m) : (take s bad n).1.size ≤ m := by
  unfold take
  split
  · show 0 ≤ m; omega
  · rename_i h
    simp only [ByteArray.size_extract]
    omega
theorem number_eq (k : Nat) (s : ByteArray) (bad : Bool) (n : Int) (hn : n ≤ 6) (hk : 8 ≤ k) :
    Jy.f k s bad n = some (bv 0 (bytesOf (take s bad n).1), (take s bad n).2.1, (take s bad n).2.2) := by
  obtain ⟨m, rfl⟩ : ∃ m, k = m + 1 := ⟨k - 1, by omega⟩
  unfold Jy.f
  have hs := take_size s bad n 6 (by omega)
  rw [Take_eq]
  simp only [Option.bind_some]
  rw [if_pos (by omega)]
  have := number_loop (bytesOf (take s bad n).1) (take s bad n).2.1 (take s bad n).2.2 (by rw [bytesOf_length]; exact hs) (bytesOf_mem _) (bytesOf (take s bad n).1).length (m + 1) 0 0 (by omega) (by omega) (by simp) (by rw [bytesOf_length]; omega)
  rw [show ((0 : Nat) : Int) = 0 from rfl, List.drop_zero] at this
  exact this

theorem take_app (a b : ByteArray) (n : Int) (hn : n = a.size) : take (a ++ b) false n = (a, b, false) := by
  unfold take
  subst hn
  rw [if_neg (by rw [app_size]; simp; omega)]
  refine Prod.ext ?_ (Prod.ext ?_ rfl)
  · apply ba_ext
    rw [ext_data, data_app]
    simp
  · apply ba_ext
    rw [ext_data, data_app, app_size]
    simp only [Int.toNat_natCast]
    rw [List.take_of_length_le (by simp), List.drop_left' (by simp)]
theorem take_ok (s : ByteArray) (n : Int) (h0 : 0 ≤ n) (h : n ≤ s.size) : take s false n = (s.extract 0 n.toNat, s.extract n.toNat s.size, false) := by
  unfold take
  rw [if_neg (by simp; omega)]
theorem bv_two (n : Int) : bv 0 [n / 256, n % 256] = n := by simp [bv]; omega
theorem rShort_eq (k : Nat) (s : ByteArray) (b : Bool) (hk : 8 ≤ k) : Ug.f k s b = some (bv 0 (bytesOf (take s b 2).1), (take s b 2).2.1, (take s b 2).2.2) := by
  unfold Ug.f
  rw [number_eq k s b 2 (by omega) hk]
  rfl
/-- The next text. -/
def text (s : ByteArray) (b : Bool) : ByteArray × ByteArray × Bool := take (take s b 2).2.1 (take s b 2).2.2 (bv 0 (bytesOf (take s b 2).1))
theorem rLeft_eq (s : ByteArray) (b : Bool) : Ul.f s b = some (if b = true then 0 else (s.size : Int), s, b) := by
  unfold Ul.f Up.f
  cases b <;> simp
end Go.Proofs.YtdodghifojkclaaGreatDoor.Oct
