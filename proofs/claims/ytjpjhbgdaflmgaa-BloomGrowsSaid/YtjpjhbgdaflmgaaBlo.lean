import Derived.Test.YtjpjhbgdaflmgaaOct2
import Derived.Test.YtjpjhbgdaflmgaaOct3
import Derived.Test.YtjpjhbgdaflmgaaPPx1
import Derived.Test.YtjpjhbgdaflmgaaPPx3
import Derived.Test.YtjpjhbgdaflmgaaPPx4
/-! bloom: sizes and places, in plain words. -/
namespace Go.Proofs.Ytjpjhbgdaflmgaa.Oct
open Go.RowKit Go.Proofs.Ytjpjhbgdaflmgaa.PP Go.Proofs.YtjpjhbgdaflmgaaW.PrintWords Go.Proofs.YtjpjhbgdaflmgaaW.PrintLast Go.Proofs.YtjpjhbgdaflmgaaW.PrintMore
set_option linter.unusedSimpArgs false
set_option linter.unusedVariables false

/-- How many bits so many ids get. -/
def sz (n : Int) : Int := if n ≤ 6 then 64 else if n ≤ 12 then 128 else if n ≤ 25 then 256 else if n ≤ 51 then 512 else if n ≤ 102 then 1024 else if n ≤ 204 then 2048 else 4096
theorem sz_cases (n : Int) : sz n = 64 ∨ sz n = 128 ∨ sz n = 256 ∨ sz n = 512 ∨ sz n = 1024 ∨ sz n = 2048 ∨ sz n = 4096 := by
  unfold sz
  repeat' split
  all_goals simp
theorem Size_step (k : Nat) (n m : Int) (h0 : 0 ≤ m) (h : m < 4096) : bloom_Size.l0 (k + 1) n m = if m / 10 < n then bloom_Size.l0 k n (m * 2) else some m := by
  rw [bloom_Size.l0, if_pos h, Int.tdiv_eq_ediv_of_nonneg h0, w64 (n := m / 10) (by omega) (by omega), w64 (n := m * 2) (by omega) (by omega)]
theorem Size_end (k : Nat) (n : Int) : bloom_Size.l0 (k + 1) n 4096 = some 4096 := by
  rw [bloom_Size.l0, if_neg (by omega)]
theorem Size_eq (k : Nat) (n : Int) (hk : 10 ≤ k) : bloom_Size.f k n = some (sz n) := by
  obtain ⟨k, rfl⟩ : ∃ m, k = m + 7 := ⟨k - 7, by omega⟩
  unfold bloom_Size.f sz
  rw [Size_step _ _ _ (by omega) (by omega)]
  by_cases h1 : n ≤ 6
  · rw [if_neg (by omega), if_pos h1]
  rw [if_pos (by omega), if_neg h1, Size_step _ _ _ (by omega) (by omega)]
  by_cases h2 : n ≤ 12
  · rw [if_neg (by omega), if_pos h2]; rfl
  rw [if_pos (by omega), if_neg h2, Size_step _ _ _ (by omega) (by omega)]
  by_cases h3 : n ≤ 25
  · rw [if_neg (by omega), if_pos h3]; rfl
  rw [if_pos (by omega), if_neg h3, Size_step _ _ _ (by omega) (by omega)]
  by_cases h4 : n ≤ 51
  · rw [if_neg (by omega), if_pos h4]; rfl
  rw [if_pos (by omega), if_neg h4, Size_step _ _ _ (by omega) (by omega)]
  by_cases h5 : n ≤ 102
  · rw [if_neg (by omega), if_pos h5]; rfl
  rw [if_pos (by omega), if_neg h5, Size_step _ _ _ (by omega) (by omega)]
  by_cases h6 : n ≤ 204
  · rw [if_neg (by omega), if_pos h6]; rfl
  rw [if_pos (by omega), if_neg h6]
  exact Size_end k n
theorem rSize_step (k : Nat) (n m : Int) (h0 : 0 ≤ m) (h : m < 4096) : palaverref14_Size.l0 (k + 1) n m = if n ≤ m / 10 then some m else palaverref14_Size.l0 k n (2 * m) := by
  rw [palaverref14_Size.l0, if_pos h, Int.tdiv_eq_ediv_of_nonneg h0, w64 (n := m / 10) (by omega) (by omega), w64 (n := 2 * m) (by omega) (by omega)]
theorem rSize_end (k : Nat) (n : Int) : palaverref14_Size.l0 (k + 1) n 4096 = some 4096 := by
  rw [palaverref14_Size.l0, if_neg (by omega)]
theorem rSize_eq (k : Nat) (n : Int) (hk : 10 ≤ k) : palaverref14_Size.f k n = some (sz n) := by
  obtain ⟨k, rfl⟩ : ∃ m, k = m + 7 := ⟨k - 7, by omega⟩
  unfold palaverref14_Size.f sz
  rw [rSize_step _ _ _ (by omega) (by omega)]
  by_cases h1 : n ≤ 6
  · rw [if_pos (by omega), if_pos h1]
  rw [if_neg (by omega), if_neg h1, rSize_step _ _ _ (by omega) (by omega)]
  by_cases h2 : n ≤ 12
  · rw [if_pos (by omega), if_pos h2]; rfl
  rw [if_neg (by omega), if_neg h2, rSize_step _ _ _ (by omega) (by omega)]
  by_cases h3 : n ≤ 25
  · rw [if_pos (by omega), if_pos h3]; rfl
  rw [if_neg (by omega), if_neg h3, rSize_step _ _ _ (by omega) (by omega)]
  by_cases h4 : n ≤ 51
  · rw [if_pos (by omega), if_pos h4]; rfl
  rw [if_neg (by omega), if_neg h4, rSize_step _ _ _ (by omega) (by omega)]
  by_cases h5 : n ≤ 102
  · rw [if_pos (by omega), if_pos h5]; rfl
  rw [if_neg (by omega), if_neg h5, rSize_step _ _ _ (by omega) (by omega)]
  by_cases h6 : n ≤ 204
  · rw [if_pos (by omega), if_pos h6]; rfl
  rw [if_neg (by omega), if_neg h6]
  exact rSize_end k n

/-- The next odd number. -/
def odd (b : Int) : Int := if b % 2 = 0 then b + 1 else b
theorem or_one (b : Int) (h0 : 0 ≤ b) (h1 : b < 4294967296) : Go.bits .or .i64 b 1 = odd b := by
  have hk : ∀ n : Int, 0 ≤ n → n < 2 ^ 63 → IntKind.i64.wrap n = n := fun n h0 h1 => by rw [IntKind.wrap_i64]; omega
  unfold odd
  split
  · rename_i h
    exact bits_join .i64 63 (by decide) hk 1 b 1 h0 (by omega) (by omega) (by omega) (by omega) (by omega)
  · rename_i h
    have e : Go.bits .or .i64 (b - 1) 1 = b - 1 + 1 := bits_join .i64 63 (by decide) hk 1 (b - 1) 1 (by omega) (by omega) (by omega) (by omega) (by omega) (by omega)
    obtain ⟨n, rfl⟩ := Int.eq_ofNat_of_zero_le h0
    have e1 : ((n : Int) - 1) = ((n - 1 : Nat) : Int) := by omega
    rw [e1] at e
    have b1 := (bits_nat .i64 63 (by decide) hk (n - 1) 1 (by omega) (by decide)).2
    have b2 := (bits_nat .i64 63 (by decide) hk n 1 (by omega) (by decide)).2
    rw [show ((1 : Nat) : Int) = 1 from rfl] at b1 b2
    rw [b1] at e
    rw [b2]
    have e2 : (n - 1) ||| 1 = n := by omega
    have e3 : n ||| 1 = n := by
      conv => lhs; rw [← e2]
      rw [Nat.or_assoc, Nat.or_self, e2]
    rw [e3]
/-- An id's places. -/
def places (id : ByteArray) (m : Int) : List Int :=
  if id.size = 32 ∧ 1 ≤ m ∧ m ≤ 4096 then
    let a := bv 0 (bytesOf (id.extract 0 4))
    let b := odd (bv 0 (bytesOf (id.extract 4 8)))
    [a % m, (a + b) % m, (a + 2 * b) % m, (a + 3 * b) % m]
  else []
theorem bv_lt : ∀ (l : List Int) (x : Int) (c : Nat), 0 ≤ x → x < 256 ^ c → (∀ c ∈ l, 0 ≤ c ∧ c < 256) → bv x l < 256 ^ (c + l.length)
  | [], x, c, h0, h1, _ => h1
  | d :: l, x, c, h0, h1, h => by
    have hd := h d (by simp)
    have := bv_lt l (x * 256 + d) (c + 1) (by omega) (by rw [Int.pow_succ]; omega) (fun e he => h e (by simp [he]))
    rw [List.length_cons, show c + (l.length + 1) = c + 1 + l.length by omega]
    exact this
theorem bv_four_lt (s : ByteArray) (h : s.size = 4) : 0 ≤ bv 0 (bytesOf s) ∧ bv 0 (bytesOf s) < 4294967296 := by
  constructor
  · have : ∀ (l : List Int) (x : Int), 0 ≤ x → (∀ c ∈ l, 0 ≤ c ∧ c < 256) → 0 ≤ bv x l := by
      intro l
      induction l with
      | nil => intro x h _; exact h
      | cons c l ih => intro x hx h; exact ih (x * 256 + c) (by have := h c (by simp); omega) (fun d hd => h d (by simp [hd]))
    exact this _ 0 (by omega) (bytesOf_mem s)
  · have := bv_lt (bytesOf s) 0 0 (by omega) (by simp) (bytesOf_mem s)
    rw [bytesOf_length, h] at this
    exact this
end Go.Proofs.Ytjpjhbgdaflmgaa.Oct
