/-
  Any key's signature of any digest is the document's, or there is none.
  Conditions: none.
-/
import Derived.Test.YtkdbobccchkdjaaDoorStWotsSigns
import Derived.Test.YtkdbobccchkdjaaDoorWts3
import Derived.Test.YtkdbobccchkdjaaDoorPPx7
namespace Go.Proofs.YtkdbobccchkdjaaDoor.Sha
open Go.RowKit Go.Proofs.YtkdbobccchkdjaaDoor.PP Go.Proofs.YtkdbobccchkdjaaDoorW.PrintWords Go.Proofs.YtkdbobccchkdjaaDoorW.PrintLast Go.Proofs.YtkdbobccchkdjaaDoorW.PrintMore
set_option linter.unusedSimpArgs false
set_option linter.unusedVariables false

theorem alike3_l (l : List ByteArray) (hl : l.length ≤ 900) : ∀ (d j : Nat), j + d = l.length → Sha.Ev (fun k => palaverlaw03_alike.l0 k l l (j : Int)) true
  | 0, j, hj => by
    refine Ev.succ (G := fun _ => some true) (fun k => ?_) (Ev.pure _)
    simp only [palaverlaw03_alike.l0]
    rw [if_neg (by omega)]
  | d + 1, j, hj => by
    refine Ev.succ (fun k => ?_) (alike3_l l hl d (j + 1) (by omega))
    simp only [palaverlaw03_alike.l0, upI j (by omega)]
    rw [if_pos (by omega), if_pos (by omega), if_pos (by omega), if_pos trivial]
theorem alike3_ev (l : List ByteArray) (hl : l.length ≤ 900) : Sha.Ev (fun k => palaverlaw03_alike.f k l l) true := by
  unfold palaverlaw03_alike.f
  exact ifs rfl (alike3_l l hl l.length 0 (by omega))
theorem WotsSigns : palaverlaw03_WotsSigns.Stmt := by
  intro a0 a1 a2 h0 w1 h2
  have yes : Sha.Ev (fun k => palaverlaw03_WotsSigns.j0 k a0 a1 a2 true) true := Ev.succ (G := fun k => (palaverlaw03_awake.f k).bind fun t => some t) (fun k => by simp only [palaverlaw03_WotsSigns.j0]; rw [if_pos trivial]) awake3_then
  refine Ev.get (F := fun k => palaverlaw03_WotsSigns.f k a0 a1 a2) ?_
  unfold palaverlaw03_WotsSigns.f palaverlaw03_long.f
  simp only [Option.bind_some]
  refine ev_long a0 (fun hs => ?_) yes
  refine Ev.bind awake3 ?_
  have no : Sha.Ev (fun k => palaverlaw03_WotsSigns.j1 k a0 a1 a2 [] false true) true := Ev.succ (G := fun _ => some true) (fun k => by simp only [palaverlaw03_WotsSigns.j1]; rw [if_pos trivial, if_pos (by rfl)]; rfl) (Ev.pure _)
  refine Ev.succ (G := fun k => (wots_Sign.f k a0 a1 a2).bind fun bt => (if a1 < 0 then (palaverlaw03_WotsSigns.j1 k a0 a1 a2 bt.1 bt.2 true) else (if a1 > 65535 then (palaverlaw03_WotsSigns.j1 k a0 a1 a2 bt.1 bt.2 true) else (palaverlaw03_WotsSigns.j1 k a0 a1 a2 bt.1 bt.2 ((a2.size : Int) != 32))))) (fun k => by simp only [palaverlaw03_WotsSigns.j0]; rw [if_neg (by decide)]) (Ev.bind (sign_ev a0 hs a1 a2) ?_)
  by_cases c : 0 ≤ a1 ∧ a1 ≤ 65535
  · by_cases c2 : a2.size = 32
    · rw [if_pos ⟨c, c2⟩]
      refine ifn (by omega) (ifn (by omega) ?_)
      rw [show ((a2.size : Int) != 32) = false by rw [c2]; rfl]
      have hl := sg_len a0 a1 a2
      refine Ev.succ (G := fun k => (palaverref03_Sign.f k a0 a1 a2).bind fun t => (palaverlaw03_alike.f k (sg a0 a1 a2) t).bind fun u => some u) (fun k => by simp only [palaverlaw03_WotsSigns.j1]; rw [if_neg (by decide), if_pos trivial]) (Ev.bind (rsign_ev a0 hs a1 c.1 c.2 a2 c2) (Ev.bind (alike3_ev (sg a0 a1 a2) (by omega)) (Ev.pure _)))
    · have e : ¬ ((0 ≤ a1 ∧ a1 ≤ 65535) ∧ a2.size = 32) := fun h => c2 h.2
      rw [if_neg e]
      refine ifn (by omega) (ifn (by omega) ?_)
      rw [show ((a2.size : Int) != 32) = true by rw [bne_iff_ne]; omega]
      exact no
  · have e : ¬ ((0 ≤ a1 ∧ a1 ≤ 65535) ∧ a2.size = 32) := fun h => c h.1
    rw [if_neg e]
    by_cases c1 : a1 < 0
    · exact ifs c1 no
    · exact ifn c1 (ifs (by omega) no)
end Go.Proofs.YtkdbobccchkdjaaDoor.Sha
namespace Go.Proofs.YtkdbobccchkdjaaDoor.Pure
open Go.Proofs.YtkdbobccchkdjaaDoor.PP
theorem WotsSigns : palaverlaw03_WotsSigns.Stmt := Sha.WotsSigns
end Go.Proofs.YtkdbobccchkdjaaDoor.Pure
