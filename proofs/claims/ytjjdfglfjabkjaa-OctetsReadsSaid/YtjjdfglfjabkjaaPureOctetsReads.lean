/-
  OctetsReads: of any bytes, whatever is asked one behind the other: what is told, what is left, and whether the reader is bad, is the document's.
  Conditions: none of our own (the bytes, and the list of asks, take at most the model's reach, 2^47 - 4096 bytes each).
-/
import Derived.Test.YtjjdfglfjabkjaaStOctetsReads
import Derived.Test.YtjjdfglfjabkjaaOct1
import Derived.Test.YtjjdfglfjabkjaaOct2
import Derived.Test.YtjjdfglfjabkjaaOct3
namespace Go.Proofs.Ytjjdfglfjabkjaa.Pure
open Go.RowKit Go.Proofs.Ytjjdfglfjabkjaa.PP Go.Proofs.YtjjdfglfjabkjaaW.PrintWords Go.Proofs.YtjjdfglfjabkjaaW.PrintLast Go.Proofs.YtjjdfglfjabkjaaW.PrintMore Go.Proofs.Ytjjdfglfjabkjaa.Oct

theorem read_eq (s : ByteArray) (n : Int) (b : Bool) : palaverlaw01_read.f s n b = some (take s b n) := by
  unfold palaverlaw01_read.f take
  cases b
  · by_cases h1 : n < 0
    · simp [h1]
    · by_cases h2 : n > (s.size : Int)
      · simp [h1, h2]
      · have h3 : n ≤ s.size := by omega
        have h4 : 0 ≤ n := by omega
        simp [h1, h2, h3, h4]
  · simp
theorem step3 (k : Nat) (s : ByteArray) (l : List S37) (b : Bool) (i n : Int) : palaverlaw01_OctetsReads.j3 (k + 1) s l b i n n (if b = true then 0 else (s.size : Int)) s b = palaverlaw01_OctetsReads.l0 k s l b (wrap64 (i + 1)) s b := by
  rw [palaverlaw01_OctetsReads.j3]
  cases b <;> simp [octets_Reader_Good.f, rLeft_eq, rEnd_eq]
theorem step2 (k : Nat) (s : ByteArray) (l : List S37) (b : Bool) (i n : Int) : palaverlaw01_OctetsReads.j2 (k + 2) s l b i n n s b = palaverlaw01_OctetsReads.l0 k s l b (wrap64 (i + 1)) s b := by
  rw [← step3 k s l b i n, palaverlaw01_OctetsReads.j2]
  cases b <;> rfl
theorem loop (l : List S37) (hl : l.length ≤ 200) : ∀ (d k i : Nat) (s : ByteArray) (b : Bool), i + d = l.length → 3 * d + 30 < k → palaverlaw01_OctetsReads.l0 k s l b (i : Int) s b = some true
  | 0, k, i, s, b, hi, hk => by
    obtain ⟨k, rfl⟩ : ∃ m, k = m + 1 := ⟨k - 1, by omega⟩
    rw [palaverlaw01_OctetsReads.l0, if_neg (by omega)]
  | d + 1, k, i, s, b, hi, hk => by
    obtain ⟨k, rfl⟩ : ∃ m, k = m + 3 := ⟨k - 3, by omega⟩
    have hw : wrap64 ((i : Int) + 1) = ((i + 1 : Nat) : Int) := by rw [w64 (by omega) (by omega)]; omega
    have nx : ∀ (t : ByteArray) (c : Bool) (n : Int), palaverlaw01_OctetsReads.j2 (k + 2) t l c i n n t c = some true := fun t c n => by
      rw [step2, hw]
      exact loop l hl d k (i + 1) t c (by omega) (by omega)
    have t1 : (take s b 1).1.size ≤ 6 := take_size s b 1 6 (by omega)
    have t2 : (take s b 2).1.size ≤ 6 := take_size s b 2 6 (by omega)
    have t4 : (take s b 4).1.size ≤ 6 := take_size s b 4 6 (by omega)
    rw [palaverlaw01_OctetsReads.l0, if_pos (by omega), if_pos (by omega)]
    split
    · rw [rByte_eq _ _ _ (by omega), read_eq]
      simp only [Option.bind_some]
      rw [value_eq _ _ t1 (by omega)]
      exact nx _ _ _
    split
    · rw [rShort_eq _ _ _ (by omega), read_eq]
      simp only [Option.bind_some]
      rw [value_eq _ _ t2 (by omega)]
      exact nx _ _ _
    split
    · rw [rLong_eq _ _ _ (by omega), read_eq]
      simp only [Option.bind_some]
      rw [value_eq _ _ t4 (by omega)]
      exact nx _ _ _
    split
    · rw [rText_eq _ _ _ (by omega), read_eq]
      simp only [Option.bind_some]
      rw [value_eq _ _ t2 (by omega)]
      simp only [Option.bind_some, read_eq]
      change (if (text s b).1.toList = (text s b).1.toList then palaverlaw01_OctetsReads.j2 (k + 2) (text s b).2.1 l (text s b).2.2 (i : Int) 0 0 (text s b).2.1 (text s b).2.2 else some false) = some true
      rw [if_pos rfl]
      exact nx _ _ _
    · rw [Take_eq (k + 1), read_eq]
      simp only [Option.bind_some]
      rw [if_pos trivial]
      exact nx _ _ _
theorem OctetsReads : palaverlaw01_OctetsReads.Stmt := by
  intro s l hs hl
  suffices h : ∀ k, 999 ≤ k → palaverlaw01_OctetsReads.f (k + 1) s l = some true from ⟨_, h 999 (Nat.le_refl _)⟩
  intro k hk
  unfold palaverlaw01_OctetsReads.f
  rw [awake_eq (k + 1) (by omega)]
  split
  · simp [palaverlaw01_OctetsReads.j0, awake_eq k (by omega)]
  · simp only [Option.bind_some]
    rw [palaverlaw01_OctetsReads.j0, if_neg (by simp)]
    simp only [octets_Read.f, Option.bind_some]
    exact loop l (by omega) l.length k 0 s false (by omega) (by omega)
end Go.Proofs.Ytjjdfglfjabkjaa.Pure
