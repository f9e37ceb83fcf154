import Derived.Test.YtdodghifojkclaaGreatDoorOctB
import Derived.Test.YtdodghifojkclaaGreatDoorPPx2
namespace Go.Proofs.YtdodghifojkclaaGreatDoor.Oct
open Go.RowKit Go.Proofs.YtdodghifojkclaaGreatDoor.PP Go.Proofs.YtdodghifojkclaaGreatDoorW.PrintWords Go.Proofs.YtdodghifojkclaaGreatDoorW.PrintLast Go.Proofs.YtdodghifojkclaaGreatDoorW.PrintMore
set_option linter.unusedSimpArgs false
set_option linter.unusedVariables false

/-! what is read -/
/-- The next so many bytes, what is left, whether it is bad. -/
def take (s : ByteArray) (bad : Bool) (n : Int) : ByteArray × ByteArray × Bool :=
  if bad = true ∨ n < 0 ∨ n > (s.size : Int) then (⟨#[]⟩, s, true) else (s.extract 0 n.toNat, s.extract n.toNat s.size, false)
theorem Take_eq (k : Nat) (s : ByteArray) (bad : Bool) (n : Int) : Jp.f (k + 1) s bad n = some (take s bad n) := by
  unfold Jp.f take
  cases bad
  · by_cases h1 : n < 0
    · simp [h1, Jp.j0]
    · by_cases h2 : n > (s.size : Int)
      · simp [h1, h2, Jp.j0]
      · have h3 : n ≤ s.size := by omega
        have h4 : 0 ≤ n := by omega
        simp [h1, h2, h3, h4, Jp.j0]
  · simp [Jp.j0]
/-- The number of bytes. -/
def bv (x : Int) (l : List Int) : Int := l.foldl (fun n c => n * 256 + c) x
theorem or_add (x c : Int) (h0 : 0 ≤ x) (h1 : x < 36028797018963968) (c0 : 0 ≤ c) (c1 : c < 256) : Go.bits .or .i64 (wrap64 (x * 256)) (wrap64 c) = x * 256 + c := by
  rw [w64 (by omega) (by omega), w64 (by omega) (by omega)]
  refine bits_join .i64 63 (by decide) (fun n h0 h1 => ?_) 8 (x * 256) c (by omega) (by omega) (by omega) c0 (by omega) (by omega)
  rw [IntKind.wrap_i64]
  omega
theorem number_loop (l : List Int) (s : ByteArray) (bad : Bool) (hl : l.length ≤ 6) (hc : ∀ c ∈ l, 0 ≤ c ∧ c < 256) :
    ∀ (d k i : Nat) (x : Int), i + d = l.length → 0 ≤ x → x < 256 ^ i → d < k → Jy.l0 k x l (l.length : Int) (i : Int) s bad = some (bv x (l.drop i), s, bad)
  | 0, k, i, x, hi, h0, h1, hk => by
    obtain ⟨k, rfl⟩ : ∃ m, k = m + 1 := ⟨k - 1, by omega⟩
    rw [Jy.l0]
    rw [if_neg (by omega), List.drop_of_length_le (by omega)]
    rfl
  | d + 1, k, i, x, hi, h0, h1, hk => by
    obtain ⟨k, rfl⟩ : ∃ m, k = m + 1 := ⟨k - 1, by omega⟩
    rw [Jy.l0]
    have hil : i < l.length := by omega
    have hm := hc l[i] (List.getElem_mem hil)
    have hr : rd l (i : Int) = l[i] := by simp [rd, List.getD_eq_getElem?_getD, List.getElem?_eq_getElem hil]
    have hp : (256 : Int) ^ i ≤ 1099511627776 := by
      have h : (256 : Nat) ^ i ≤ 1099511627776 := Nat.le_trans (Nat.pow_le_pow_right (by decide) (show i ≤ 5 by omega)) (by decide)
      rw [show (256 : Int) ^ i = ((256 ^ i : Nat) : Int) by simp]
      omega
    have hx : x < 1099511627776 := by omega
    rw [if_pos (by omega), if_pos (by omega), if_pos (by omega), hr, or_add x l[i] h0 (by omega) hm.1 hm.2, w64 (by omega) (by omega)]
    have hs : x * 256 + l[i] < 256 ^ (i + 1) := by
      rw [Int.pow_succ]
      omega
    have := number_loop l s bad hl hc d k (i + 1) (x * 256 + l[i]) (by omega) (by omega) hs (by omega)
    rw [show ((i : Int) + 1) = ((i + 1 : Nat) : Int) by omega, this, List.drop_eq_getElem_cons hil]
    rfl
theorem take_size (s : ByteArray) (bad : Bool) (n : Int) (m : Nat) (hn : n ≤ m) : (take s bad n).1.size ≤ m := by
  unfold take
  split
  · show 0 ≤ m; omega
  · rename_i h
    simp only [ByteArray.size_extract]
    omega
theorem number_eq (k : Nat) (s : ByteArray) (bad : Bool) (n : Int) (hn : n ≤ 6) (hk : 8 ≤ k) :
    Jy.f k s bad n = some (bv 0 (bytesOf (take s bad n).1), (take s bad n).2.1, (take s bad n).2.2) := by
  obtain ⟨m, rfl⟩ : ∃ m, k = m + 1 := ⟨k - 1, by omega⟩
  unfold Jy.f
  have hs := take_size s bad n 6 (by omega)
  rw [Take_eq]
  simp only [Option.bind_some]
  rw [if_pos (by omega)]
  have := number_loop (bytesOf (take s bad n).1) (take s bad n).2.1 (take s bad n).2.2 (by rw [bytesOf_length]; exact hs) (bytesOf_mem _) (bytesOf (take s bad n).1).length (m + 1) 0 0 (by omega) (by omega) (by simp) (by rw [bytesOf_length]; omega)
  rw [show ((0 : Nat) : Int) = 0 from rfl, List.drop_zero] at this
  exact this

theorem take_app (a b : ByteArray) (n : Int) (hn : n = a.size) : take (a ++ b) false n = (a, b, false) := by
  unfold take
  subst hn
  rw [if_neg (by rw [app_size]; simp; omega)]
  refine Prod.ext ?_ (Prod.ext ?_ rfl)
  · apply ba_ext
    rw [ext_data, data_app]
    simp
  · apply ba_ext
    rw [ext_data, data_app, app_size]
    simp only [Int.toNat_natCast]
    rw [List.take_of_length_le (by simp), List.drop_left' (by simp)]
theorem take_ok (s : ByteArray) (n : Int) (h0 : 0 ≤ n) (h : n ≤ s.size) : take s false n = (s.extract 0 n.toNat, s.extract n.toNat s.size, false) := by
  unfold take
  rw [if_neg (by simp; omega)]
theorem bv_two (n : Int) : bv 0 [n / 256, n % 256] = n := by simp [bv]; omega
theorem rShort_eq (k : Nat) (s : ByteArray) (b : Bool) (hk : 8 ≤ k) : Uh.f k s b = some (bv 0 (bytesOf (take s b 2).1), (take s b 2).2.1, (take s b 2).2.2) := by
  unfold Uh.f
  rw [number_eq k s b 2 (by omega) hk]
  rfl
/-- The next text. -/
def text (s : ByteArray) (b : Bool) : ByteArray × ByteArray × Bool := take (take s b 2).2.1 (take s b 2).2.2 (bv 0 (bytesOf (take s b 2).1))
theorem rLeft_eq (s : ByteArray) (b : Bool) : Un.f s b = some (if b = true then 0 else (s.size : Int), s, b) := by
  unfold Un.f Ur.f
  cases b <;> simp
end Go.Proofs.YtdodghifojkclaaGreatDoor.Oct
