/-
  Events: what is great.
  Conditions: none.
-/
import Derived.Test.YtmedpnclkbkiiaaDoorEvt1
import Derived.Test.YtmedpnclkbkiiaaDoorPPx2
namespace Go.Proofs.YtmedpnclkbkiiaaDoor.Oct.Evt
open Go.RowKit Go.Proofs.YtmedpnclkbkiiaaDoor.PP Go.Proofs.YtmedpnclkbkiiaaDoorW.PrintWords Go.Proofs.YtmedpnclkbkiiaaDoorW.PrintLast Go.Proofs.YtmedpnclkbkiiaaDoorW.PrintMore
open Go.Proofs.YtmedpnclkbkiiaaDoor.Sha (ifs ifn)
set_option linter.unusedSimpArgs false
set_option linter.unusedVariables false

/-! what is great -/
theorem great_loop (kind : Int) (a : ByteArray) (l : List ByteArray) (b s : ByteArray) (hl : l.length ≤ 20) : ∀ m i : Nat, i + m = l.length → ∃ r, Sha.Ev (fun k => palaverref06_Great.l0 k (i : Int) kind a l b s) r
  | 0, i, h => by
    refine ⟨false, Sha.Ev.succ (G := fun _ => some false) (fun k => ?_) (Sha.Ev.pure _)⟩
    simp only [palaverref06_Great.l0]
    rw [if_neg (by omega)]
  | m + 1, i, h => by
    obtain ⟨r, ih⟩ := great_loop kind a l b s hl m (i + 1) (by omega)
    have e2 : wrap64 ((i : Int) + 1) = ((i + 1 : Nat) : Int) := by rw [w64 (by omega) (by omega)]; omega
    by_cases c : ((rdOf ByteArray.empty l (i : Int)).size : Int) > 300
    · refine ⟨true, Sha.Ev.succ (G := fun _ => some true) (fun k => ?_) (Sha.Ev.pure _)⟩
      simp only [palaverref06_Great.l0, e2]
      rw [if_pos (by omega), if_pos (by omega), if_pos c]
    · refine ⟨r, Sha.Ev.succ (fun k => ?_) ih⟩
      simp only [palaverref06_Great.l0, e2]
      rw [if_pos (by omega), if_pos (by omega), if_neg c]
theorem great_yes (kind : Int) (a : ByteArray) (l : List ByteArray) (b s : ByteArray) : Sha.Ev (fun k => palaverref06_Great.j0 k true kind a l b s) true :=
  Sha.Ev.succ (fun k => palaverref06_Great.j0.eq_2 true kind a l b s k) (ifs rfl (Sha.Ev.pure _))
theorem great_ask (kind : Int) (a : ByteArray) (l : List ByteArray) (b s : ByteArray) : ∃ r, Sha.Ev (fun k => palaverref06_Great.j0 k (decide ((l.length : Int) > 20)) kind a l b s) r := by
  by_cases c : (l.length : Int) > 20
  · rw [decide_eq_true c]
    exact ⟨true, great_yes kind a l b s⟩
  · rw [decide_eq_false c]
    obtain ⟨r, h⟩ := great_loop kind a l b s (by omega) l.length 0 (by omega)
    exact ⟨r, Sha.Ev.succ (fun k => palaverref06_Great.j0.eq_2 false kind a l b s k) (ifn (by decide) h)⟩
theorem great_ev (kind : Int) (a : ByteArray) (l : List ByteArray) (b s : ByteArray) : ∃ r, Sha.Ev (fun k => palaverref06_Great.f k kind a l b s) r := by
  obtain ⟨r, h⟩ := great_ask kind a l b s
  have hy := great_yes kind a l b s
  unfold palaverref06_Great.f
  by_cases c1 : (a.size : Int) > 300
  · exact ⟨true, ifs c1 hy⟩
  · by_cases c2 : (b.size : Int) > 500
    · exact ⟨true, ifn c1 (ifs c2 hy)⟩
    · by_cases c3 : (s.size : Int) > 3000
      · by_cases c4 : (s.size : Int) ≤ 65535
        · exact ⟨true, ifn c1 (ifn c2 (ifs c3 (ifs c4 hy)))⟩
        · exact ⟨r, ifn c1 (ifn c2 (ifs c3 (ifn c4 h)))⟩
      · exact ⟨r, ifn c1 (ifn c2 (ifn c3 h))⟩
end Go.Proofs.YtmedpnclkbkiiaaDoor.Oct.Evt
