/-
  Signatures: their parts: the program's are the document's.
  Conditions: none.
-/
import Derived.Test.YtdodghifojkclaaGreatDoorOct
import Derived.Test.YtdodghifojkclaaGreatDoorOct2
import Derived.Test.YtdodghifojkclaaGreatDoorMrk
import Derived.Test.YtdodghifojkclaaGreatDoorWts3
import Derived.Test.YtdodghifojkclaaGreatDoorPPx3
namespace Go.Proofs.YtdodghifojkclaaGreatDoor.Oct
open Go.RowKit Go.Proofs.YtdodghifojkclaaGreatDoor.PP Go.Proofs.YtdodghifojkclaaGreatDoorW.PrintWords Go.Proofs.YtdodghifojkclaaGreatDoorW.PrintLast Go.Proofs.YtdodghifojkclaaGreatDoorW.PrintMore
set_option linter.unusedSimpArgs false
set_option linter.unusedVariables false

end Go.Proofs.YtdodghifojkclaaGreatDoor.Oct
namespace Go.Proofs.YtdodghifojkclaaGreatDoor.Oct.Evt
open Go.RowKit Go.Proofs.YtdodghifojkclaaGreatDoor.PP Go.Proofs.YtdodghifojkclaaGreatDoorW.PrintWords Go.Proofs.YtdodghifojkclaaGreatDoorW.PrintLast Go.Proofs.YtdodghifojkclaaGreatDoorW.PrintMore
open Go.Proofs.YtdodghifojkclaaGreatDoor.Sha (ifs ifn)
set_option linter.unusedSimpArgs false
set_option linter.unusedVariables false

/-- A text in pieces of 32. -/
def ch : Nat → ByteArray → List ByteArray
  | 0, _ => []
  | d + 1, x => x.extract 0 32 :: ch d (x.extract 32 x.size)
abbrev Prt := Int × List ByteArray × List ByteArray × Bool
def noPrt : Prt := (0, [], [], false)
/-- The parts of a signature of 67 + h pieces. -/
def prt (h : Nat) (leaf : Int) (l : List ByteArray) : Prt := if leaf ≥ 2 ^ h then noPrt else (leaf, l.take 67, l.drop 67, true)
theorem prt_no {h : Nat} {leaf : Int} {l : List ByteArray} (c : leaf ≥ 2 ^ h) : prt h leaf l = noPrt := if_pos c
theorem prt_yes {h : Nat} {leaf : Int} {l : List ByteArray} (c : ¬ leaf ≥ 2 ^ h) : prt h leaf l = (leaf, l.take 67, l.drop 67, true) := if_neg c
theorem ext_size5 (s : ByteArray) (a b : Nat) (h : a ≤ b) (h2 : b ≤ s.size) : (s.extract a b).size = b - a := by simp; omega
/-! the program's -/
theorem kp_loop (h : Nat) (hh : h ≤ 4) (leaf : Int) : ∀ (d : Nat) (x : ByteArray) (l : List ByteArray), x.size = 32 * d → l.length + d = 67 + h →
    Sha.Ev (fun k => J7.l0 k (h : Int) leaf l x false) (prt h leaf (l ++ ch d x))
  | 0, x, l, hx, hl => by
    rw [show ch 0 x = [] from rfl, List.append_nil]
    refine Sha.Ev.succ (fun k => J7.l0.eq_2 (h : Int) leaf l x false k) ?_
    simp only [rLeft_eq, Option.bind_some]
    refine ifn (by rw [if_neg (by decide)]; omega) (ifs (by omega) ?_)
    rw [Sha.shl_one h hh]
    by_cases c : leaf ≥ 2 ^ h
    · rw [prt_no c]
      exact ifs c (Sha.Ev.pure _)
    · rw [prt_yes c]
      exact ifn c (ifs (by omega) (Sha.Ev.pure _))
  | d + 1, x, l, hx, hl => by
    have ih := kp_loop h hh leaf d (x.extract 32 x.size) (l ++ [x.extract 0 32]) (by rw [ext_size5 _ _ _ (by omega) (Nat.le_refl _)]; omega) (by simp; omega)
    refine Sha.Ev.succ (fun k => J7.l0.eq_2 (h : Int) leaf l x false k) ?_
    simp only [rLeft_eq, Option.bind_some]
    refine ifs (by rw [if_neg (by decide)]; omega) (Sha.Ev.bind (v := (x.extract 0 32, x.extract 32 x.size, false)) ?_ (ifs (by omega) ?_))
    · refine Sha.Ev.succ (G := fun _ => some (x.extract 0 32, x.extract 32 x.size, false)) (fun k => ?_) (Sha.Ev.pure _)
      rw [Take_eq, take_ok x 32 (by omega) (by omega)]
      rfl
    · rw [List.append_assoc] at ih
      exact ih
/-- How many pieces lead from the leaf, if the bytes are so many. -/
def hgt (n : Nat) : Option Nat := if 2146 ≤ n ∧ (n - 2) % 32 = 0 ∧ (n - 2) / 32 - 67 ≤ 4 then some ((n - 2) / 32 - 67) else none
/-- The parts of a signature. -/
def parts5 (s : ByteArray) : Prt := match hgt s.size with
  | none => noPrt
  | some h => prt h (bv 0 (bytesOf (s.extract 0 2))) (ch (67 + h) (s.extract 2 s.size))
theorem kp_no (s : ByteArray) (n : Int) : Sha.Ev (fun k => J7.j0 k s n true) noPrt :=
  Sha.Ev.succ (fun k => J7.j0.eq_2 s n true k) (ifs rfl (Sha.Ev.pure _))
theorem kp_ev (s : ByteArray) (hs : s.size ≤ 100000) : Sha.Ev (fun k => J7.f k s) (parts5 s) := by
  unfold J7.f parts5
  have w1 : wrap64 ((s.size : Int) - 2) = (s.size : Int) - 2 := w64 (by omega) (by omega)
  by_cases c0 : (s.size : Int) < 2
  · rw [show hgt s.size = none from if_neg (by omega)]
    exact ifs c0 (kp_no s _)
  · refine ifn c0 ?_
    have e1 : Int.tmod ((s.size : Int) - 2) 32 = (((s.size - 2) % 32 : Nat) : Int) := by rw [Int.tmod_eq_emod_of_nonneg (by omega)]; omega
    have e2 : Int.tdiv ((s.size : Int) - 2) 32 = (((s.size - 2) / 32 : Nat) : Int) := by rw [Int.tdiv_eq_ediv_of_nonneg (by omega)]; omega
    have w2 : wrap64 (((s.size - 2) / 32 : Nat) : Int) = (((s.size - 2) / 32 : Nat) : Int) := w64 (by omega) (by omega)
    have w3 : wrap64 ((((s.size - 2) / 32 : Nat) : Int) - 67) = (((s.size - 2) / 32 : Nat) : Int) - 67 := w64 (by omega) (by omega)
    simp only [w1, e1, e2, w2, w3]
    by_cases c1 : (s.size - 2) % 32 = 0
    · refine ifs (by omega) ?_
      by_cases c2 : ((((s.size - 2) / 32 : Nat) : Int) - 67) < 0
      · rw [show hgt s.size = none from if_neg (by omega)]
        exact ifs c2 (kp_no s _)
      · refine ifn c2 ?_
        by_cases c3 : ((((s.size - 2) / 32 : Nat) : Int) - 67) > 4
        · rw [show hgt s.size = none from if_neg (by omega), decide_eq_true c3]
          exact kp_no s _
        · rw [decide_eq_false c3, show hgt s.size = some ((s.size - 2) / 32 - 67) from if_pos (by omega)]
          obtain ⟨h, eh⟩ : ∃ h, (s.size - 2) / 32 - 67 = h := ⟨_, rfl⟩
          rw [show ((((s.size - 2) / 32 : Nat) : Int) - 67) = (h : Int) by omega, eh]
          refine Sha.Ev.succ (fun k => J7.j0.eq_2 s (h : Int) false k) (ifn (by decide) ?_)
          simp only [U4.f, Option.bind_some]
          refine Sha.Ev.bind (v := (bv 0 (bytesOf (s.extract 0 2)), s.extract 2 s.size, false)) ⟨8, fun k hk => ?_⟩ ?_
          · show Uh.f k s false = _
            rw [rShort_eq k s false hk, take_ok s 2 (by omega) (by omega)]
            rfl
          · exact kp_loop h (by omega) _ (67 + h) (s.extract 2 s.size) [] (by rw [ext_size5 _ _ _ (by omega) (Nat.le_refl _)]; omega) (by simp)
    · rw [show hgt s.size = none from if_neg (by omega)]
      exact ifn (by omega) (kp_no s _)
/-! the document's -/
theorem one_mem (c : ByteArray) (hc : c.size ≤ 2000) : ∀ x ∈ [c], x.size ≤ 2000 := by
  intro x hx
  simp at hx
  rw [hx]
  exact hc
theorem pair_mem (x y : ByteArray) (hx : x.size ≤ 2000) (hy : y.size ≤ 2000) : ∀ s ∈ [x, y], s.size ≤ 2000 := by
  intro s h
  rcases List.mem_cons.1 h with rfl | h
  · exact hx
  · simp at h
    rw [h]
    exact hy
theorem named_ev (n : Nat) (hn : n ≤ 4) (x : ByteArray) (hx : x.size ≤ 300) : Sha.Ev (fun k => Uy.f k (n : Int) x) (Sha.tT 5 [Sha.one n, x]) := by
  unfold Uy.f
  exact Sha.Ev.bind (Sha.one_ev n (by omega)) (Sha.Ev.bind (Sha.tagT 5 _ (pair_mem _ _ (by rw [Sha.one_size]; decide) (by omega)) (by simp)) (Sha.Ev.pure _))
theorem rnamed_ev (n : Nat) (hn : n ≤ 4) (x : ByteArray) (hx : x.size ≤ 300) : Sha.Ev (fun k => Uj.f k (n : Int) x) (Sha.tT 5 [Sha.one n, x]) := by
  unfold Uj.f
  exact Sha.Ev.bind (Sha.rone_ev n (by omega)) (Sha.Ev.bind (Sha.rtagT 5 (by decide) _ (pair_mem _ _ (by rw [Sha.one_size]; decide) (by omega)) (by simp)) (Sha.Ev.pure _))
end Go.Proofs.YtdodghifojkclaaGreatDoor.Oct.Evt
