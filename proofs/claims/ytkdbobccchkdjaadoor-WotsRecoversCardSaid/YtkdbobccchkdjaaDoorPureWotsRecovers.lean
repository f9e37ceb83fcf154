/-
  Of any values the public to which they lead is the document's, or they are no signature.
  Conditions: none.
-/
import Derived.Test.YtkdbobccchkdjaaDoorStWotsRecovers
import Derived.Test.YtkdbobccchkdjaaDoorWts3
namespace Go.Proofs.YtkdbobccchkdjaaDoor.Sha
open Go.RowKit Go.Proofs.YtkdbobccchkdjaaDoor.PP Go.Proofs.YtkdbobccchkdjaaDoorW.PrintWords Go.Proofs.YtkdbobccchkdjaaDoorW.PrintLast Go.Proofs.YtkdbobccchkdjaaDoorW.PrintMore
set_option linter.unusedSimpArgs false
set_option linter.unusedVariables false

theorem recovers_end (a0 : ByteArray) (l : List ByteArray) (hm : l.length = 67 → ∀ s ∈ l, s.size ≤ 300) : Sha.Ev (fun k => (wots_Recover.f k a0 l).bind fun bt => (if (a0.size : Int) = 32 then (palaverlaw03_WotsRecovers.j2 k a0 l bt.1 bt.2 ((l.length : Int) != 67)) else (palaverlaw03_WotsRecovers.j2 k a0 l bt.1 bt.2 true))) true := by
  have no : Sha.Ev (fun k => palaverlaw03_WotsRecovers.j2 k a0 l (⟨#[]⟩ : ByteArray) false true) true := by
    refine Ev.succ (G := fun k => (palaverlaw03_awake.f k).bind fun t => some t) (fun k => ?_) awake3_then
    simp only [palaverlaw03_WotsRecovers.j2]
    rw [if_pos trivial, if_pos (by rw [ByteArray.toList_eq]), if_neg (by decide)]
  refine Ev.bind (recover_ev a0 l hm) ?_
  by_cases c : a0.size = 32
  · refine ifs (by omega) ?_
    by_cases c2 : l.length = 67
    · rw [if_pos ⟨c, c2⟩, show ((l.length : Int) != 67) = false by rw [c2]; rfl]
      refine Ev.succ (G := fun k => (palaverref03_Recover.f k a0 l).bind fun bt => (if (rc (Dg a0) l).toList = bt.1.toList then ((palaverlaw03_awake.f k).bind fun z => some z) else (some false))) (fun k => ?_) (Ev.bind (rrecover_ev a0 c l (hm c2) c2) (ifs rfl awake3_then))
      simp only [palaverlaw03_WotsRecovers.j2]
      rw [if_neg (by decide)]
      simp only [if_true]
    · have e : ¬ (a0.size = 32 ∧ l.length = 67) := fun h => c2 h.2
      rw [if_neg e, show ((l.length : Int) != 67) = true by rw [bne_iff_ne]; omega]
      exact no
  · have e : ¬ (a0.size = 32 ∧ l.length = 67) := fun h => c h.1
    rw [if_neg e]
    exact ifn (by omega) no
theorem recovers_l (a0 : ByteArray) (l : List ByteArray) (hl : l.length ≤ 9223372036854775806) : ∀ (d j : Nat), j + d = 70 → (l.length = 67 → ∀ i, ∀ h : i < l.length, i < j → (l[i]'h).size ≤ 300) → Sha.Ev (fun k => palaverlaw03_WotsRecovers.l0 k a0 l (j : Int)) true
  | 0, j, h, hp => by
    have e : Sha.Ev (fun k => palaverlaw03_WotsRecovers.j1 k a0 l (j : Int) false) true := Ev.succ (fun k => by simp only [palaverlaw03_WotsRecovers.j1]; rw [if_neg (by decide)]) (recovers_end a0 l (fun h7 s hs => by
      obtain ⟨i, hi, rfl⟩ := List.getElem_of_mem hs
      exact hp h7 i hi (by omega)))
    refine Ev.succ (fun k => ?_) e
    simp only [palaverlaw03_WotsRecovers.l0]
    by_cases c : (j : Int) < (l.length : Int)
    · rw [if_pos c, decide_eq_false (by omega)]
    · rw [if_neg c]
  | d + 1, j, h, hp => by
    by_cases c : j < l.length
    · by_cases c2 : (l[j].size : Int) > 300
      · have e : Sha.Ev (fun k => palaverlaw03_WotsRecovers.j1 k a0 l (j : Int) true) true := by
          refine Ev.succ (G := fun k => (palaverlaw03_awake.f k).bind fun t => some t) (fun k => ?_) awake3_then
          simp only [palaverlaw03_WotsRecovers.j1, rdo_get l j c, palaverlaw03_long.f, Option.bind_some]
          rw [if_pos trivial, if_pos (by omega), if_pos (by omega), if_pos (decide_eq_true c2)]
        refine Ev.succ (fun k => ?_) e
        simp only [palaverlaw03_WotsRecovers.l0]
        rw [if_pos (by omega), decide_eq_true (by omega)]
      · have ih := recovers_l a0 l hl d (j + 1) (by omega) (fun h7 i hi hij => by
          by_cases e : i = j
          · subst e
            omega
          · exact hp h7 i hi (by omega))
        have e : Sha.Ev (fun k => palaverlaw03_WotsRecovers.j1 k a0 l (j : Int) true) true := by
          refine Ev.succ (fun k => ?_) ih
          simp only [palaverlaw03_WotsRecovers.j1, rdo_get l j c, palaverlaw03_long.f, Option.bind_some, upI j (by omega)]
          rw [if_pos trivial, if_pos (by omega), if_pos (by omega), if_neg (by simpa using c2)]
        refine Ev.succ (fun k => ?_) e
        simp only [palaverlaw03_WotsRecovers.l0]
        rw [if_pos (by omega), decide_eq_true (by omega)]
    · have e : Sha.Ev (fun k => palaverlaw03_WotsRecovers.j1 k a0 l (j : Int) false) true := Ev.succ (fun k => by simp only [palaverlaw03_WotsRecovers.j1]; rw [if_neg (by decide)]) (recovers_end a0 l (fun h7 s hs => by
        obtain ⟨i, hi, rfl⟩ := List.getElem_of_mem hs
        exact hp h7 i hi (by omega)))
      refine Ev.succ (fun k => ?_) e
      simp only [palaverlaw03_WotsRecovers.l0]
      rw [if_neg (by omega)]
theorem WotsRecovers : palaverlaw03_WotsRecovers.Stmt := by
  intro a0 l1 h0 h1
  refine Ev.get (F := fun k => palaverlaw03_WotsRecovers.f k a0 l1) ?_
  exact recovers_l a0 l1 (by omega) 70 0 (by omega) (fun _ i _ h => by omega)
end Go.Proofs.YtkdbobccchkdjaaDoor.Sha
namespace Go.Proofs.YtkdbobccchkdjaaDoor.Pure
open Go.Proofs.YtkdbobccchkdjaaDoor.PP
theorem WotsRecovers : palaverlaw03_WotsRecovers.Stmt := Sha.WotsRecovers
end Go.Proofs.YtkdbobccchkdjaaDoor.Pure
