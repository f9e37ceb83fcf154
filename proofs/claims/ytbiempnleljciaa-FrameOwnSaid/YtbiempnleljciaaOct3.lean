import Derived.Test.YtbiempnleljciaaOct2
import Derived.Test.YtbiempnleljciaaPPx10
namespace Go.Proofs.Ytbiempnleljciaa.Oct
open Go.RowKit Go.Proofs.Ytbiempnleljciaa.PP Go.Proofs.YtbiempnleljciaaW.PrintWords Go.Proofs.YtbiempnleljciaaW.PrintLast Go.Proofs.YtbiempnleljciaaW.PrintMore
set_option linter.unusedSimpArgs false
set_option linter.unusedVariables false

theorem bt_bytes (s : ByteArray) (i : Nat) (h : i < s.size) : bt s (i : Int) = (bytesOf s)[i]'(by rw [bytesOf_length]; exact h) := by
  unfold bytesOf
  rw [bt, dif_pos (by simpa using h)]
  simp
  rfl
/-- The number of few bytes, as the document has it. -/
theorem value_loop (s : ByteArray) (hs : s.size ≤ 6) :
    ∀ (d k i : Nat) (x : Int), i + d = s.size → 0 ≤ x → x < 256 ^ i → d < k → palaverref01_Value.l0 k s x (i : Int) = some (bv x ((bytesOf s).drop i))
  | 0, k, i, x, hi, h0, h1, hk => by
    obtain ⟨k, rfl⟩ : ∃ m, k = m + 1 := ⟨k - 1, by omega⟩
    rw [palaverref01_Value.l0, if_neg (by omega), List.drop_of_length_le (by rw [bytesOf_length]; omega)]
    rfl
  | d + 1, k, i, x, hi, h0, h1, hk => by
    obtain ⟨k, rfl⟩ : ∃ m, k = m + 1 := ⟨k - 1, by omega⟩
    have hil : i < s.size := by omega
    have hil2 : i < (bytesOf s).length := by rw [bytesOf_length]; exact hil
    have hm := bytesOf_mem s _ (List.getElem_mem hil2)
    have hp : (256 : Int) ^ i ≤ 1099511627776 := by
      have h : (256 : Nat) ^ i ≤ 1099511627776 := Nat.le_trans (Nat.pow_le_pow_right (by decide) (show i ≤ 5 by omega)) (by decide)
      rw [show (256 : Int) ^ i = ((256 ^ i : Nat) : Int) by simp]
      omega
    have hx : x < 1099511627776 := by omega
    rw [palaverref01_Value.l0, if_pos (by omega), if_pos (by omega), bt_bytes s i hil, w64 (n := 256 * x) (by omega) (by omega), w64 (n := (bytesOf s)[i]) (by omega) (by omega), w64 (n := 256 * x + (bytesOf s)[i]) (by omega) (by omega), w64 (n := (i : Int) + 1) (by omega) (by omega)]
    have hs2 : 256 * x + (bytesOf s)[i] < 256 ^ (i + 1) := by
      rw [Int.pow_succ]
      omega
    have := value_loop s hs d k (i + 1) (256 * x + (bytesOf s)[i]) (by omega) (by omega) hs2 (by omega)
    rw [show ((i : Int) + 1) = ((i + 1 : Nat) : Int) by omega, this, List.drop_eq_getElem_cons hil2]
    show some _ = some (bv (x * 256 + (bytesOf s)[i]) _)
    rw [Int.mul_comm]
theorem value_eq (k : Nat) (s : ByteArray) (hs : s.size ≤ 6) (hk : 7 ≤ k) : palaverref01_Value.f k s = some (bv 0 (bytesOf s)) := by
  unfold palaverref01_Value.f
  have := value_loop s hs s.size k 0 0 (by omega) (by omega) (by simp) (by omega)
  rw [List.drop_zero] at this
  exact this
end Go.Proofs.Ytbiempnleljciaa.Oct
