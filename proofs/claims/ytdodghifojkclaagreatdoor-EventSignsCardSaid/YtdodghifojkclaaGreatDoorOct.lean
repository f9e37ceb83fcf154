import Derived.Test.YtdodghifojkclaaGreatDoorPPx1
import Derived.Test.YtdodghifojkclaaGreatDoorPPx2
namespace Go.Proofs.YtdodghifojkclaaGreatDoor.Oct
open Go.RowKit Go.Proofs.YtdodghifojkclaaGreatDoor.PP Go.Proofs.YtdodghifojkclaaGreatDoorW.PrintWords Go.Proofs.YtdodghifojkclaaGreatDoorW.PrintLast Go.Proofs.YtdodghifojkclaaGreatDoorW.PrintMore
set_option linter.unusedSimpArgs false
set_option linter.unusedVariables false

theorem w64 {n : Int} (h0 : -9223372036854775808 ≤ n) (h1 : n ≤ 9223372036854775807) : wrap64 n = n := by unfold wrap64; omega
theorem toList_eq (a b : ByteArray) : a.toList = b.toList ↔ a = b := by
  rw [ByteArray.toList_eq, ByteArray.toList_eq]
  constructor
  · intro h
    cases a; cases b
    simp at h
    rw [h]
  · intro h; rw [h]
theorem empty_size : (⟨#[]⟩ : ByteArray).size = 0 := rfl

theorem ba_ext {a b : ByteArray} (h : a.data.toList = b.data.toList) : a = b := by
  cases a; cases b
  simp at h
  rw [h]
theorem data_app (a b : ByteArray) : (a ++ b).data.toList = a.data.toList ++ b.data.toList := by simp
theorem nums_app (a b : List Int) : strOfNums a ++ strOfNums b = strOfNums (a ++ b) := by
  apply ba_ext
  rw [data_app, strOfNums_data, strOfNums_data, strOfNums_data, List.map_append]
theorem app_nil (a : ByteArray) : a ++ (⟨#[]⟩ : ByteArray) = a := by
  apply ba_ext
  rw [data_app]
  simp
/-! numbers as bytes -/
theorem laid_no (k : Nat) (n s : Int) (h : n < 0) : Jm.f (k + 1) n s = some (⟨#[]⟩, false) := by
  unfold Jm.f
  rw [if_pos h]
  simp [Jm.j0]
theorem laid_big2 (k : Nat) (n : Int) (h0 : 0 ≤ n) (h : 65536 ≤ n) : Jm.f (k + 1) n 2 = some (⟨#[]⟩, false) := by
  have w2 : wrap64 (8 * 2) = 16 := w64 (by omega) (by omega)
  have e1 : shr .i64 n 16 = n / 65536 := rfl
  have e2 : (n / 65536 != 0) = true := by simp; omega
  unfold Jm.f
  rw [if_neg (by omega), w2, if_pos (by decide), e1, e2]
  simp [Jm.j0]
theorem laid_big4 (k : Nat) (n : Int) (h0 : 0 ≤ n) (h : 4294967296 ≤ n) : Jm.f (k + 1) n 4 = some (⟨#[]⟩, false) := by
  have w2 : wrap64 (8 * 4) = 32 := w64 (by omega) (by omega)
  have e1 : shr .i64 n 32 = n / 4294967296 := rfl
  have e2 : (n / 4294967296 != 0) = true := by simp; omega
  unfold Jm.f
  rw [if_neg (by omega), w2, if_pos (by decide), e1, e2]
  simp [Jm.j0]
theorem laid1 (k : Nat) (n : Int) (h0 : 0 ≤ n) (h1 : n < 256) : Jm.f (k + 4) n 1 = some (strOfNums [n], true) := by
  have e1 : shr .i64 n 8 = 0 := by show n / 256 = 0; omega
  have e3 : shr .i64 n 0 = n := by show n / 1 = n; omega
  have w0 : wrap64 (8 * 0) = 0 := w64 (by omega) (by omega)
  have w1 : wrap64 (8 * 1) = 8 := w64 (by omega) (by omega)
  have w3 : wrap64 (1 - 1) = 0 := w64 (by omega) (by omega)
  have w4 : wrap64 (0 - 0) = 0 := w64 (by omega) (by omega)
  have w6 : wrap64 (0 + 1) = 1 := w64 (by omega) (by omega)
  unfold Jm.f
  rw [if_neg (by omega), w1, if_pos (by decide), e1]
  simp only [Jm.j0, Jm.l0, w0, w3, w4, w6, e3]
  simp
  rw [show n % 256 = n by omega]
theorem laid2 (k : Nat) (n : Int) (h0 : 0 ≤ n) (h1 : n < 65536) : Jm.f (k + 5) n 2 = some (strOfNums [n / 256, n % 256], true) := by
  have e1 : shr .i64 n 16 = 0 := by show n / 65536 = 0; omega
  have e2 : shr .i64 n 8 = n / 256 := rfl
  have e3 : shr .i64 n 0 = n := by show n / 1 = n; omega
  have w0 : wrap64 (8 * 0) = 0 := w64 (by omega) (by omega)
  have w1 : wrap64 (8 * 1) = 8 := w64 (by omega) (by omega)
  have w2 : wrap64 (8 * 2) = 16 := w64 (by omega) (by omega)
  have w3 : wrap64 (2 - 1) = 1 := w64 (by omega) (by omega)
  have w4 : wrap64 (1 - 0) = 1 := w64 (by omega) (by omega)
  have w5 : wrap64 (1 - 1) = 0 := w64 (by omega) (by omega)
  have w6 : wrap64 (0 + 1) = 1 := w64 (by omega) (by omega)
  have w7 : wrap64 (1 + 1) = 2 := w64 (by omega) (by omega)
  unfold Jm.f
  rw [if_neg (by omega), w2, if_pos (by decide), e1]
  simp only [Jm.j0, Jm.l0, w0, w1, w3, w4, w5, w6, w7, e2, e3]
  simp
  rw [show n / 256 % 256 = n / 256 by omega]
theorem laid4 (k : Nat) (n : Int) (h0 : 0 ≤ n) (h1 : n < 4294967296) : Jm.f (k + 7) n 4 = some (strOfNums [n / 16777216, n / 65536 % 256, n / 256 % 256, n % 256], true) := by
  have e1 : shr .i64 n 32 = 0 := by show n / 4294967296 = 0; omega
  have e2 : shr .i64 n 8 = n / 256 := rfl
  have e4 : shr .i64 n 16 = n / 65536 := rfl
  have e5 : shr .i64 n 24 = n / 16777216 := rfl
  have e3 : shr .i64 n 0 = n := by show n / 1 = n; omega
  have w0 : wrap64 (8 * 0) = 0 := w64 (by omega) (by omega)
  have w1 : wrap64 (8 * 1) = 8 := w64 (by omega) (by omega)
  have w2 : wrap64 (8 * 2) = 16 := w64 (by omega) (by omega)
  have w2' : wrap64 (8 * 3) = 24 := w64 (by omega) (by omega)
  have w2'' : wrap64 (8 * 4) = 32 := w64 (by omega) (by omega)
  have w3 : wrap64 (4 - 1) = 3 := w64 (by omega) (by omega)
  have w4 : wrap64 (3 - 0) = 3 := w64 (by omega) (by omega)
  have w5 : wrap64 (3 - 1) = 2 := w64 (by omega) (by omega)
  have w5' : wrap64 (3 - 2) = 1 := w64 (by omega) (by omega)
  have w5'' : wrap64 (3 - 3) = 0 := w64 (by omega) (by omega)
  have w6 : wrap64 (0 + 1) = 1 := w64 (by omega) (by omega)
  have w7 : wrap64 (1 + 1) = 2 := w64 (by omega) (by omega)
  have w8 : wrap64 (2 + 1) = 3 := w64 (by omega) (by omega)
  have w9 : wrap64 (3 + 1) = 4 := w64 (by omega) (by omega)
  unfold Jm.f
  rw [if_neg (by omega), w2'', if_pos (by decide), e1]
  simp only [Jm.j0, Jm.l0, w0, w1, w2, w2', w3, w4, w5, w5', w5'', w6, w7, w8, w9, e2, e3, e4, e5]
  simp
  rw [show n / 16777216 % 256 = n / 16777216 by omega]

theorem bytesOf_mem (s : ByteArray) : ∀ c ∈ bytesOf s, 0 ≤ c ∧ c < 256 := by
  intro c hc
  unfold bytesOf at hc
  obtain ⟨b, _, rfl⟩ := List.mem_map.1 hc
  have := b.toNat_lt
  omega
/-! the document's numbers -/
theorem refN_step (k : Nat) (n size i : Int) (acc : ByteArray) (h0 : 0 ≤ n) (h1 : n ≤ 9223372036854775807) (hi : i < size) (hi0 : 0 ≤ i) (hs : size ≤ 8) (ha : acc.size ≤ 100) :
    Jc.l1 (k + 1) n size acc i = Jc.l1 k (n / 256) size (strOfNums [n % 256] ++ acc) (i + 1) := by
  rw [Jc.l1]
  have e1 : Int.tmod n 256 % 256 = n % 256 := by rw [Int.tmod_eq_emod_of_nonneg h0]; omega
  have e2 : wrap64 (Int.tdiv n 256) = n / 256 := by rw [Int.tdiv_eq_ediv_of_nonneg h0]; exact w64 (by omega) (by omega)
  have e3 : wrap64 (i + 1) = i + 1 := w64 (by omega) (by omega)
  rw [if_pos hi, e1, e2, e3]
  simp only [Option.bind_some]
  rw [if_pos (by rw [strOfNums_size]; simp; omega)]
theorem refN_end (k : Nat) (n size i : Int) (acc : ByteArray) (hi : ¬ i < size) : Jc.l1 (k + 1) n size acc i = some (acc, true) := by
  rw [Jc.l1, if_neg hi]
theorem ref_no (k : Nat) (n size : Int) : Jc.j1 (k + 1) n size true = some (⟨#[]⟩, false) := by simp [Jc.j1]
theorem ref_go (k : Nat) (n size : Int) : Jc.j1 (k + 1) n size false = Jc.l1 k n size ⟨#[]⟩ 0 := by simp [Jc.j1]
theorem ref_l0 (k : Nat) (n size m i : Int) (hi : i < size) (hi0 : 0 ≤ i) (hs : size ≤ 8) (hm : 0 ≤ m) (hm2 : m ≤ 4294967296) : Jc.l0 (k + 1) n size m i = Jc.l0 k n size (256 * m) (i + 1) := by
  rw [Jc.l0, if_pos hi, w64 (n := 256 * m) (by omega) (by omega), w64 (n := i + 1) (by omega) (by omega)]
theorem ref_l0_end (k : Nat) (n size m i : Int) (hi : ¬ i < size) : Jc.l0 (k + 1) n size m i = Jc.j1 k n size (decide (n < 0 ∨ n ≥ m)) := by
  rw [Jc.l0, if_neg hi]
  by_cases h : n < 0
  · simp [h]
  · rw [if_neg h]; simp [h]
theorem ref_one (k : Nat) (n : Int) (hn : n ≤ 9223372036854775807) : Jc.f (k + 6) n 1 = if n < 0 ∨ n ≥ 256 then some (⟨#[]⟩, false) else some (strOfNums [n], true) := by
  unfold Jc.f
  rw [ref_l0 _ _ _ _ _ (by omega) (by omega) (by omega) (by omega) (by omega), ref_l0_end _ _ _ _ _ (by omega)]
  by_cases h : n < 0 ∨ n ≥ 256
  · rw [if_pos h, decide_eq_true (by omega), ref_no]
  · rw [if_neg h, decide_eq_false (by omega), ref_go, refN_step _ _ _ _ _ (by omega) (by omega) (by omega) (by omega) (by omega) (by rw [empty_size]; omega), refN_end _ _ _ _ _ (by omega), app_nil, show n % 256 = n by omega]
theorem ref_two (k : Nat) (n : Int) (hn : n ≤ 9223372036854775807) : Jc.f (k + 8) n 2 = if n < 0 ∨ n ≥ 65536 then some (⟨#[]⟩, false) else some (strOfNums [n / 256, n % 256], true) := by
  unfold Jc.f
  rw [ref_l0 _ _ _ _ _ (by omega) (by omega) (by omega) (by omega) (by omega), ref_l0 _ _ _ _ _ (by omega) (by omega) (by omega) (by omega) (by omega), ref_l0_end _ _ _ _ _ (by omega)]
  by_cases h : n < 0 ∨ n ≥ 65536
  · rw [if_pos h, decide_eq_true (by omega), ref_no]
  · rw [if_neg h, decide_eq_false (by omega), ref_go, refN_step _ _ _ _ _ (by omega) (by omega) (by omega) (by omega) (by omega) (by rw [empty_size]; omega), app_nil, refN_step _ _ _ _ _ (by omega) (by omega) (by omega) (by omega) (by omega) (by rw [strOfNums_size]; simp), refN_end _ _ _ _ _ (by omega), nums_app]
    rw [show n / 256 % 256 = n / 256 by omega]
    rfl
theorem ref_four (k : Nat) (n : Int) (hn : n ≤ 9223372036854775807) : Jc.f (k + 12) n 4 = if n < 0 ∨ n ≥ 4294967296 then some (⟨#[]⟩, false) else some (strOfNums [n / 16777216, n / 65536 % 256, n / 256 % 256, n % 256], true) := by
  unfold Jc.f
  rw [ref_l0 _ _ _ _ _ (by omega) (by omega) (by omega) (by omega) (by omega), ref_l0 _ _ _ _ _ (by omega) (by omega) (by omega) (by omega) (by omega), ref_l0 _ _ _ _ _ (by omega) (by omega) (by omega) (by omega) (by omega), ref_l0 _ _ _ _ _ (by omega) (by omega) (by omega) (by omega) (by omega), ref_l0_end _ _ _ _ _ (by omega)]
  by_cases h : n < 0 ∨ n ≥ 4294967296
  · rw [if_pos h, decide_eq_true (by omega), ref_no]
  · rw [if_neg h, decide_eq_false (by omega), ref_go, refN_step _ _ _ _ _ (by omega) (by omega) (by omega) (by omega) (by omega) (by rw [empty_size]; omega), app_nil,
      refN_step _ _ _ _ _ (by omega) (by omega) (by omega) (by omega) (by omega) (by rw [strOfNums_size]; simp), nums_app, refN_step _ _ _ _ _ (by omega) (by omega) (by omega) (by omega) (by omega) (by rw [strOfNums_size]; simp), nums_app,
      refN_step _ _ _ _ _ (by omega) (by omega) (by omega) (by omega) (by omega) (by rw [strOfNums_size]; simp), nums_app, refN_end _ _ _ _ _ (by omega)]
    rw [show n / 256 / 256 / 256 % 256 = n / 16777216 by omega, show n / 256 / 256 % 256 = n / 65536 % 256 by omega]
    rfl
theorem short_eq (k : Nat) (n : Int) : Jm.f (k + 5) n 2 = if n < 0 ∨ n ≥ 65536 then some (⟨#[]⟩, false) else some (strOfNums [n / 256, n % 256], true) := by
  by_cases h : n < 0
  · rw [if_pos (Or.inl h), laid_no _ _ _ h]
  · by_cases h2 : n ≥ 65536
    · rw [if_pos (Or.inr h2), laid_big2 _ _ (by omega) (by omega)]
    · rw [if_neg (by omega), laid2 _ _ (by omega) (by omega)]
theorem long_eq (k : Nat) (n : Int) : Jm.f (k + 7) n 4 = if n < 0 ∨ n ≥ 4294967296 then some (⟨#[]⟩, false) else some (strOfNums [n / 16777216, n / 65536 % 256, n / 256 % 256, n % 256], true) := by
  by_cases h : n < 0
  · rw [if_pos (Or.inl h), laid_no _ _ _ h]
  · by_cases h2 : n ≥ 4294967296
    · rw [if_pos (Or.inr h2), laid_big4 _ _ (by omega) (by omega)]
    · rw [if_neg (by omega), laid4 _ _ (by omega) (by omega)]
end Go.Proofs.YtdodghifojkclaaGreatDoor.Oct
