/-
  The digest: the document's examples; the input of a tag and texts.
  Conditions: none.
-/
import Derived.Test.YtdodghifojkclaaGreatDoorSha1
import Derived.Test.YtdodghifojkclaaGreatDoorOctA
import Derived.Test.YtdodghifojkclaaGreatDoorPPx1
namespace Go.Proofs.YtdodghifojkclaaGreatDoor.Sha
open Go.RowKit Go.Proofs.YtdodghifojkclaaGreatDoor.PP Go.Proofs.YtdodghifojkclaaGreatDoorW.PrintWords Go.Proofs.YtdodghifojkclaaGreatDoorW.PrintLast Go.Proofs.YtdodghifojkclaaGreatDoorW.PrintMore
set_option linter.unusedSimpArgs false
set_option linter.unusedVariables false

/-! "abc" -/
/-! the input -/
def four (n : Nat) : List UInt8 := [UInt8.ofNat (n / 16777216), UInt8.ofNat (n / 65536 % 256), UInt8.ofNat (n / 256 % 256), UInt8.ofNat (n % 256)]
def cat : List ByteArray → List UInt8
  | [] => []
  | s :: l => (four s.size ++ s.data.toList) ++ cat l
theorem nums_four (n : Nat) (h : n < 4294967296) : (strOfNums [(n : Int) / 16777216, (n : Int) / 65536 % 256, (n : Int) / 256 % 256, (n : Int) % 256]).toList = four n := by
  rw [ByteArray.toList_eq]
  show ([(n : Int) / 16777216, (n : Int) / 65536 % 256, (n : Int) / 256 % 256, (n : Int) % 256].map fun z => UInt8.ofNat z.toNat) = four n
  unfold four
  simp only [List.map_cons, List.map_nil]
  rw [show ((n : Int) / 16777216).toNat = n / 16777216 by omega, show ((n : Int) / 65536 % 256).toNat = n / 65536 % 256 by omega, show ((n : Int) / 256 % 256).toNat = n / 256 % 256 by omega, show ((n : Int) % 256).toNat = n % 256 by omega]
theorem long_ev (n : Nat) (h : n < 4294967296) : Sha.Ev (fun k => U1.f k (n : Int)) (strOfNums [(n : Int) / 16777216, (n : Int) / 65536 % 256, (n : Int) / 256 % 256, (n : Int) % 256], true) := by
  refine ⟨7, fun k hk => ?_⟩
  obtain ⟨j, rfl⟩ : ∃ j, k = j + 7 := ⟨k - 7, by omega⟩
  show U1.f (j + 7) (n : Int) = _
  unfold U1.f
  rw [Oct.long_eq, if_neg (by omega)]
  rfl
theorem parts_ev : ∀ (l : List ByteArray), (∀ s ∈ l, s.size < 4294967296) → Sha.Ev (fun k => J2.parts k l) (cat l)
  | [], _ => Ev.pure _
  | s :: l, h => by
    have ih := parts_ev l (fun x hx => h x (List.mem_cons_of_mem _ hx))
    show Sha.Ev (fun k => (U1.f k (s.size : Int)).bind fun n => (J2.parts k l).bind fun r => some ((n.1.toList ++ s.toList) ++ r)) _
    refine Ev.bind (long_ev s.size (h s (by simp))) (Ev.bind ih ?_)
    rw [nums_four _ (h s (by simp)), ByteArray.toList_eq s]
    exact Ev.pure _
theorem input_ev (a : Int) (l : List ByteArray) (h : ∀ s ∈ l, s.size < 4294967296) (hl : (cat l).length ≤ 140737488355327) : Sha.Ev (fun k => J2.f k a l) ⟨([J2.u8 a] ++ cat l).toArray⟩ := by
  unfold J2.f
  refine Ev.bind (parts_ev l h) ?_
  rw [if_pos (by simp; omega)]
  exact Ev.pure _
theorem toList_mk (l : List UInt8) : (⟨l.toArray⟩ : ByteArray).toList = l := by rw [ByteArray.toList_eq]
/-! how many bytes -/
def at_ (l : List ByteArray) (i : Nat) : ByteArray := rdOf ByteArray.empty l (i : Int)
theorem cat_len : ∀ (l : List ByteArray), (∀ s ∈ l, s.size ≤ 2000) → (cat l).length ≤ l.length * 2004
  | [], _ => Nat.le_refl _
  | s :: l, h => by
    have ih := cat_len l (fun x hx => h x (List.mem_cons_of_mem _ hx))
    have h0 := h s (by simp)
    have hd : s.data.toList.length = s.size := data_length s
    show ((four s.size ++ s.data.toList) ++ cat l).length ≤ _
    rw [List.length_append, List.length_append, hd, List.length_cons]
    have : (four s.size).length = 4 := rfl
    omega
theorem input_small (a : Int) (l : List ByteArray) (h : ∀ s ∈ l, s.size ≤ 2000) (hl : l.length ≤ 500) : Sha.Ev (fun k => J2.f k a l) ⟨([J2.u8 a] ++ cat l).toArray⟩ := by
  have := cat_len l h
  have : l.length * 2004 ≤ 500 * 2004 := Nat.mul_le_mul_right _ hl
  exact input_ev a l (fun s hs => by have := h s hs; omega) (by omega)
/-! unlike ones have unlike inputs -/
theorem u8_inj {a b : Nat} (ha : a < 256) (hb : b < 256) (h : UInt8.ofNat a = UInt8.ofNat b) : a = b := by
  have := congrArg UInt8.toNat h
  rw [UInt8.toNat_ofNat', UInt8.toNat_ofNat'] at this
  omega
theorem four_inj {n m : Nat} (hn : n ≤ 2000) (hm : m ≤ 2000) (h : four n = four m) : n = m := by
  unfold four at h
  simp only [List.cons.injEq, and_true] at h
  have h1 := u8_inj (by omega) (by omega) h.2.2.1
  have h2 := u8_inj (by omega) (by omega) h.2.2.2
  omega
theorem cat_inj : ∀ (l m : List ByteArray), (∀ s ∈ l, s.size ≤ 2000) → (∀ s ∈ m, s.size ≤ 2000) → cat l = cat m → l = m
  | [], [], _, _, _ => rfl
  | [], s :: m, _, _, h => by
    have := congrArg List.length h
    simp [cat, four] at this
  | s :: l, [], _, _, h => by
    have := congrArg List.length h
    simp [cat, four] at this
  | s :: l, t :: m, hl, hm, h => by
    have hs := hl s (by simp)
    have ht := hm t (by simp)
    have e : four s.size ++ (s.data.toList ++ cat l) = four t.size ++ (t.data.toList ++ cat m) := by rw [← List.append_assoc, ← List.append_assoc]; exact h
    obtain ⟨e1, e2⟩ := List.append_inj e rfl
    have hz := four_inj hs ht e1
    obtain ⟨e3, e4⟩ := List.append_inj e2 (by rw [data_length, data_length]; exact hz)
    have e5 : s = t := by
      cases s; cases t
      simp at e3
      rw [e3]
    rw [e5, cat_inj l m (fun x hx => hl x (List.mem_cons_of_mem _ hx)) (fun x hx => hm x (List.mem_cons_of_mem _ hx)) e4]
end Go.Proofs.YtdodghifojkclaaGreatDoor.Sha
