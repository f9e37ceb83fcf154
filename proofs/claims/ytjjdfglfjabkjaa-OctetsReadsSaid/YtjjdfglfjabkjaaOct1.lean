import Derived.Test.YtjjdfglfjabkjaaOct
import Derived.Test.YtjjdfglfjabkjaaPPx1
import Derived.Test.YtjjdfglfjabkjaaPPx2
namespace Go.Proofs.Ytjjdfglfjabkjaa.Oct
open Go.RowKit Go.Proofs.Ytjjdfglfjabkjaa.PP Go.Proofs.YtjjdfglfjabkjaaW.PrintWords Go.Proofs.YtjjdfglfjabkjaaW.PrintLast Go.Proofs.YtjjdfglfjabkjaaW.PrintMore
set_option linter.unusedSimpArgs false
set_option linter.unusedVariables false

theorem Short_eq (k : Nat) (n : Int) (hk : 5 ≤ k) : octets_Short.f k n = if n < 0 ∨ n ≥ 65536 then some (⟨#[]⟩, false) else some (strOfNums [n / 256, n % 256], true) := by
  obtain ⟨m, rfl⟩ : ∃ m, k = m + 5 := ⟨k - 5, by omega⟩
  unfold octets_Short.f
  rw [short_eq]
  split <;> rfl
theorem Text_eq (k : Nat) (s : ByteArray) (hs : s.size ≤ 140737488351232) (hk : 5 ≤ k) :
    octets_Text.f k s = if (s.size : Int) > 65535 then some (⟨#[]⟩, false) else some (strOfNums [(s.size : Int) / 256, (s.size : Int) % 256] ++ s, true) := by
  unfold octets_Text.f
  split
  · rfl
  · rw [Short_eq k _ hk, if_neg (by omega)]
    simp only [Option.bind_some]
    rw [if_pos (by rw [strOfNums_size]; simp; omega)]
theorem refText_eq (k : Nat) (s : ByteArray) (hs : s.size ≤ 140737488351232) (hk : 8 ≤ k) :
    palaverref01_Text.f k s = if (s.size : Int) > 65535 then some (⟨#[]⟩, false) else some (strOfNums [(s.size : Int) / 256, (s.size : Int) % 256] ++ s, true) := by
  obtain ⟨m, rfl⟩ : ∃ m, k = m + 8 := ⟨k - 8, by omega⟩
  unfold palaverref01_Text.f
  rw [ref_two _ _ (by omega)]
  by_cases h : (s.size : Int) > 65535
  · rw [if_pos (by omega), if_pos h]; rfl
  · rw [if_neg (by omega), if_neg h]
    simp only [Option.bind_some, if_true]
    rw [if_pos (by rw [strOfNums_size]; simp; omega)]
theorem awake_eq (k : Nat) (hk : 10 ≤ k) : palaverlaw01_awake.f k = some true := by
  unfold palaverlaw01_awake.f
  rw [Short_eq k 258 (by omega), if_neg (by omega), Text_eq k _ (by show 2 ≤ _; omega) (by omega), if_neg (by show ¬ ((2 : Int) > 65535); omega)]
  simp only [Option.bind_some, octets_Read.f]
  rw [if_pos (by decide +kernel), if_pos trivial, if_pos (by decide +kernel), if_pos trivial]
  unfold octets_Reader_Short.f
  rw [number_eq k _ _ _ (by omega) (by omega)]
  simp only [Option.bind_some]
  rw [show take ⟨#[1]⟩ false 2 = (⟨#[]⟩, ⟨#[1]⟩, true) by decide +kernel]
  rw [if_pos (by decide +kernel)]
  rfl
end Go.Proofs.Ytjjdfglfjabkjaa.Oct
