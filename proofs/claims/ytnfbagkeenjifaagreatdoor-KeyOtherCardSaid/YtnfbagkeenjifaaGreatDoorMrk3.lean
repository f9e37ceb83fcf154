/-
  Trees: two ways that part and meet again have two unlike texts of one digest; numbers of leaves.
  Conditions: none.
-/
import Derived.Test.YtnfbagkeenjifaaGreatDoorMrk2
import Derived.Test.YtnfbagkeenjifaaGreatDoorPPx2
import Derived.Test.YtnfbagkeenjifaaGreatDoorPPx3
namespace Go.Proofs.YtnfbagkeenjifaaGreatDoor.Sha
open Go.RowKit Go.Proofs.YtnfbagkeenjifaaGreatDoor.PP Go.Proofs.YtnfbagkeenjifaaGreatDoorW.PrintWords Go.Proofs.YtnfbagkeenjifaaGreatDoorW.PrintLast Go.Proofs.YtnfbagkeenjifaaGreatDoorW.PrintMore
set_option linter.unusedSimpArgs false
set_option linter.unusedVariables false

theorem inp_inj (l m : List ByteArray) (hl : ∀ s ∈ l, s.size ≤ 2000) (hm : ∀ s ∈ m, s.size ≤ 2000) (h : inp l = inp m) : l = m := by
  unfold inp at h
  have h2 := congrArg ByteArray.toList h
  rw [toList_mk, toList_mk] at h2
  exact cat_inj l m hl hm (List.append_inj h2 rfl).2
theorem pr_inj (i : Int) (x y p : ByteArray) (h : pr i x p = pr i y p) : x = y := by
  unfold pr at h
  split at h <;> simpa using h
theorem Rd_len : ∀ (ps : List ByteArray) (i : Int) (x : ByteArray), (Rd ps i x).length = ps.length
  | [], _, _ => rfl
  | p :: ps, i, x => by
    show (Rd ps (i / 2) (tg (pr i x p))).length + 1 = ps.length + 1
    rw [Rd_len ps]
theorem tg_size (l : List ByteArray) : (tg l).size ≤ 300 := by
  unfold tg
  rw [dig_size]
  decide
theorem Rd_size : ∀ (ps : List ByteArray) (i : Int) (x : ByteArray), (∀ s ∈ ps, s.size ≤ 300) → x.size ≤ 300 → ∀ s ∈ Rd ps i x, s.size ≤ 140737488355000
  | [], _, _, _, _ => by intro s z; cases z
  | p :: ps, i, x, hp, hx => by
    intro s z
    have hpp := hp p (by simp)
    rcases List.mem_cons.1 z with rfl | z
    · exact small_size 4 _ (pr_mem i x p (by omega) (by omega)) (by rw [pr_len]; decide)
    · exact Rd_size ps (i / 2) (tg (pr i x p)) (fun s hs => hp s (List.mem_cons_of_mem _ hs)) (tg_size _) s z
theorem at_cons (a : ByteArray) (l : List ByteArray) (j : Nat) : at_ (a :: l) (j + 1) = at_ l j := by
  unfold at_ rdOf
  rw [show ((j + 1 : Nat) : Int).toNat = j + 1 by omega, show ((j : Nat) : Int).toNat = j by omega]
  rfl
theorem at_in (l : List ByteArray) (j : Nat) (h : j < l.length) : at_ l j ∈ l := by
  unfold at_
  rw [at_get l j h]
  exact List.getElem_mem h
theorem part : ∀ (ps : List ByteArray) (i : Int) (x y : ByteArray), (∀ s ∈ ps, s.size ≤ 300) → x.size ≤ 300 → y.size ≤ 300 → x ≠ y → Fo ps i x = Fo ps i y → ∃ j, j < ps.length ∧ at_ (Rd ps i x) j ≠ at_ (Rd ps i y) j ∧ dig (at_ (Rd ps i x) j) = dig (at_ (Rd ps i y) j)
  | [], i, x, y, _, _, _, hn, h => absurd h hn
  | p :: ps, i, x, y, hp, hx, hy, hn, h => by
    have hpp := hp p (by simp)
    by_cases c : tg (pr i x p) = tg (pr i y p)
    · refine ⟨0, by simp, fun e => ?_, c⟩
      have e2 : inp (pr i x p) = inp (pr i y p) := e
      exact hn (pr_inj i x y p (inp_inj _ _ (pr_mem i x p (by omega) (by omega)) (pr_mem i y p (by omega) (by omega)) e2))
    · obtain ⟨j, h1, h2, h3⟩ := part ps (i / 2) (tg (pr i x p)) (tg (pr i y p)) (fun s hs => hp s (List.mem_cons_of_mem _ hs)) (tg_size _) (tg_size _) c h
      refine ⟨j + 1, by simpa using h1, ?_, ?_⟩
      · show at_ (inp (pr i x p) :: Rd ps (i / 2) (tg (pr i x p))) (j + 1) ≠ at_ (inp (pr i y p) :: Rd ps (i / 2) (tg (pr i y p))) (j + 1)
        rw [at_cons, at_cons]
        exact h2
      · show dig (at_ (inp (pr i x p) :: Rd ps (i / 2) (tg (pr i x p))) (j + 1)) = dig (at_ (inp (pr i y p) :: Rd ps (i / 2) (tg (pr i y p))) (j + 1))
        rw [at_cons, at_cons]
        exact h3
theorem Root_yes (l : List ByteArray) (h : Nat) (hh : h ≤ 4) (hl : l.length = 2 ^ h) (hs : ∀ s ∈ l, s.size ≤ 300) (hv : merkle_leaves.f (l.length : Int) = some true) : Sha.Ev (fun k => merkle_Root.f k l) (Rt h l, true) := by
  unfold merkle_Root.f
  rw [hv]
  simp only [Option.bind_some]
  exact ifs trivial (Ev.bind (root_ev h l hh hl hs) (Ev.pure _))
theorem Bk_one (l : List ByteArray) (i : Nat) (hi : i < l.length) : Rt 0 (Bk l 0 i) = l[i] := by
  unfold Bk
  show rdOf ByteArray.empty (List.drop (i * 1) (List.take (i * 1 + 1) l)) 0 = l[i]
  rw [Nat.mul_one, List.take_succ_eq_append_getElem hi, List.drop_append_of_le_length (by rw [List.length_take]; omega), List.drop_of_length_le (by rw [List.length_take]; omega)]
  rfl
end Go.Proofs.YtnfbagkeenjifaaGreatDoor.Sha
