/-
  Frames: a frame is the same as itself; the examples; what is great.
  Conditions: none.
-/
import Derived.Test.YtbiempnleljciaaFrm4
import Derived.Test.YtbiempnleljciaaPPx1
import Derived.Test.YtbiempnleljciaaPPx10
import Derived.Test.YtbiempnleljciaaPPx4
namespace Go.Proofs.Ytbiempnleljciaa.Frm
open Go.RowKit Go.Proofs.Ytbiempnleljciaa.PP Go.Proofs.Ytbiempnleljciaa.Oct Go.Proofs.YtbiempnleljciaaW.PrintWords Go.Proofs.YtbiempnleljciaaW.PrintLast Go.Proofs.YtbiempnleljciaaW.PrintMore
set_option linter.unusedSimpArgs false
set_option linter.unusedVariables false

theorem list_loop (l : List ByteArray) (hl : l.length ≤ 9223372036854775806) : ∀ m i : Nat, i + m = l.length → Ev (fun k => palaverref07_List.l0 k l l (i : Int)) true
  | 0, i, h => by
    refine Ev.succ (G := fun _ => some true) (fun k => ?_) (Ev.pure _)
    simp only [palaverref07_List.l0]
    rw [if_neg (by omega)]
  | m + 1, i, h => by
    have ih := list_loop l hl m (i + 1) (by omega)
    have e2 : wrap64 ((i : Int) + 1) = ((i + 1 : Nat) : Int) := by rw [w64 (by omega) (by omega)]; omega
    refine Ev.succ (fun k => ?_) ih
    simp only [palaverref07_List.l0, e2]
    rw [if_pos (by omega), if_pos (by omega), if_pos (by omega), if_pos trivial]
theorem list_ev (l : List ByteArray) (hl : l.length ≤ 9223372036854775806) : Ev (fun k => palaverref07_List.f k l l) true := by
  unfold palaverref07_List.f
  simp only [if_true]
  exact list_loop l hl l.length 0 (by omega)
theorem same_ev (kind dt : Int) (ids : List ByteArray) (bits : ByteArray) (texts : List ByteArray) (hi : ids.length ≤ 9223372036854775806) (ht : texts.length ≤ 9223372036854775806) :
    Ev (fun k => palaverref07_Same.f k kind dt ids bits texts kind dt ids bits texts) true := by
  unfold palaverref07_Same.f
  simp only [if_true]
  refine Ev.bind (list_ev ids hi) ?_
  simp only [if_true]
  exact Ev.bind (list_ev texts ht) (Ev.pure _)
theorem right_len {kind dt : Int} {ids : List ByteArray} {bits : ByteArray} {texts : List ByteArray} (h : rightB kind dt ids bits texts = true) : ids.length ≤ 64 ∧ texts.length ≤ 16 := by
  rcases right_cases h with ⟨_, _, rfl, _, _, _, h2⟩ | ⟨_, _, _, rfl, _, t, rfl, _⟩ | ⟨_, _, _, rfl, _, h1, _⟩
  · exact ⟨by simp, h2⟩
  · exact ⟨by simp, by simp⟩
  · exact ⟨h1, by simp⟩
theorem same_right {kind dt : Int} {ids : List ByteArray} {bits : ByteArray} {texts : List ByteArray} (h : rightB kind dt ids bits texts = true) :
    Ev (fun k => palaverref07_Same.f k kind dt ids bits texts kind dt ids bits texts) true := by
  have := right_len h
  exact same_ev kind dt ids bits texts (by omega) (by omega)
theorem same_none : Ev (fun k => palaverref07_Same.f k 0 0 [] ⟨#[]⟩ [] 0 0 [] ⟨#[]⟩ []) true := same_ev 0 0 [] ⟨#[]⟩ [] (by simp) (by simp)
/-! what is great -/
theorem great1 (kind dt : Int) (ids : List ByteArray) (bits : ByteArray) (l : List ByteArray) : ∀ m i : Nat, 100 ≤ i + m → ∀ x : Int, ∃ r, Ev (fun k => palaverref07_Great.l1 k x (i : Int) kind dt ids bits l) r
  | 0, i, h, x => by
    refine ⟨_, Ev.succ (G := fun _ => some (decide (x > 300000))) (fun k => ?_) (Ev.pure _)⟩
    simp only [palaverref07_Great.l1]
    by_cases c : (i : Int) < l.length
    · rw [if_pos c, if_neg (by omega)]
    · rw [if_neg c]
  | m + 1, i, h, x => by
    by_cases c : (i : Int) < l.length
    · by_cases c2 : (i : Int) < 100
      · obtain ⟨r, hr⟩ := great1 kind dt ids bits l m (i + 1) (by omega) (wrap64 (x + (mn ((rdOf ByteArray.empty l (i : Int)).size : Int) 100000)))
        refine ⟨r, Ev.succ (fun k => ?_) hr⟩
        have e2 : wrap64 ((i : Int) + 1) = ((i + 1 : Nat) : Int) := by rw [w64 (by omega) (by omega)]; omega
        simp only [palaverref07_Great.l1, e2]
        rw [if_pos c, if_pos c2, if_pos (by omega)]
      · refine ⟨_, Ev.succ (G := fun _ => some (decide (x > 300000))) (fun k => ?_) (Ev.pure _)⟩
        simp only [palaverref07_Great.l1]
        rw [if_pos c, if_neg c2]
    · refine ⟨_, Ev.succ (G := fun _ => some (decide (x > 300000))) (fun k => ?_) (Ev.pure _)⟩
      simp only [palaverref07_Great.l1]
      rw [if_neg c]
theorem greatj (kind dt : Int) (ids : List ByteArray) (bits : ByteArray) (l : List ByteArray) (x : Int) : ∃ r, Ev (fun k => palaverref07_Great.j1 k x kind dt ids bits l) r := by
  obtain ⟨r, hr⟩ := great1 kind dt ids bits l 100 0 (by omega) x
  exact ⟨r, Ev.succ (fun k => palaverref07_Great.j1.eq_2 x kind dt ids bits l k) hr⟩
theorem great0 (kind dt : Int) (l : List ByteArray) (bits : ByteArray) (texts : List ByteArray) : ∀ m i : Nat, 100 ≤ i + m → ∀ x : Int, ∃ r, Ev (fun k => palaverref07_Great.l0 k x (i : Int) kind dt l bits texts) r
  | 0, i, h, x => by
    obtain ⟨r, hr⟩ := greatj kind dt l bits texts x
    refine ⟨r, Ev.succ (fun k => ?_) hr⟩
    simp only [palaverref07_Great.l0]
    by_cases c : (i : Int) < l.length
    · rw [if_pos c, if_neg (by omega)]
    · rw [if_neg c]
  | m + 1, i, h, x => by
    by_cases c : (i : Int) < l.length
    · by_cases c2 : (i : Int) < 100
      · obtain ⟨r, hr⟩ := great0 kind dt l bits texts m (i + 1) (by omega) (wrap64 (x + (mn ((rdOf ByteArray.empty l (i : Int)).size : Int) 100000)))
        refine ⟨r, Ev.succ (fun k => ?_) hr⟩
        have e2 : wrap64 ((i : Int) + 1) = ((i + 1 : Nat) : Int) := by rw [w64 (by omega) (by omega)]; omega
        simp only [palaverref07_Great.l0, e2]
        rw [if_pos c, if_pos c2, if_pos (by omega)]
      · obtain ⟨r, hr⟩ := greatj kind dt l bits texts x
        refine ⟨r, Ev.succ (fun k => ?_) hr⟩
        simp only [palaverref07_Great.l0]
        rw [if_pos c, if_neg c2]
    · obtain ⟨r, hr⟩ := greatj kind dt l bits texts x
      refine ⟨r, Ev.succ (fun k => ?_) hr⟩
      simp only [palaverref07_Great.l0]
      rw [if_neg c]
theorem great_ev (kind dt : Int) (ids : List ByteArray) (bits : ByteArray) (texts : List ByteArray) : ∃ r, Ev (fun k => palaverref07_Great.f k kind dt ids bits texts) r :=
  great0 kind dt ids bits texts 100 0 (by omega) _
/-! the examples -/
theorem right_one : rightB 1 0 [] ⟨#[]⟩ [] = true := by
  unfold rightB idsB
  rw [if_pos rfl]
  rw [show fromB (idAt []) ([] : List ByteArray).length 0 = true from fromB_end _ 0]
  simp
theorem right_five : rightB 5 3 [] ⟨#[]⟩ [strOfNums [1, 0]] = true := by
  unfold rightB
  rw [if_neg (by decide), if_neg (by decide), if_neg (by decide), if_neg (by decide), if_pos rfl, textsB_one, at_cons_zero]
  have e1 : (strOfNums [1, 0]).size = 2 := by rw [strOfNums_size]; rfl
  have e2 : bt (strOfNums [1, 0]) 0 = 1 := by
    have := (bt_two 1 0 (by decide) (by decide) (by decide) (by decide) ⟨#[]⟩).1
    rw [app_nil] at this
    exact this
  rw [e1, e2]
  simp
theorem enc_one : enc 1 0 [] ⟨#[]⟩ [] = strOfNums [1, 0] := by decide
theorem enc_five : (enc 5 3 [] ⟨#[]⟩ [strOfNums [1, 0]]).toList = [5, 3, 0, 2, 1, 0] := by
  rw [ByteArray.toList_eq]
  decide
theorem awake_ev : Ev (fun k => palaverlaw07_awake.f k) true := by
  unfold palaverlaw07_awake.f
  have h1 := encode_ev 1 0 [] ⟨#[]⟩ [] (by simp) (by simp)
  have h5 := encode_ev 5 3 [] ⟨#[]⟩ [strOfNums [1, 0]] (by simp) (by simp)
  unfold encR at h1 h5
  rw [right_one, if_pos rfl, enc_one, if_neg (by rw [strOfNums_size]; decide)] at h1
  have hz : (enc 5 3 [] ⟨#[]⟩ [strOfNums [1, 0]]).size = 6 := by rw [size_len, ← ByteArray.toList_eq, enc_five]; rfl
  rw [right_five, if_pos rfl, if_neg (by rw [hz]; decide)] at h5
  refine Ev.bind h1 (Ev.bind h5 ?_)
  have e : (strOfNums [1, 0]).toList = [1, 0] := by rw [ByteArray.toList_eq]; decide
  simp only [if_true, e, enc_five]
  exact Ev.pure _
theorem awake_then : Ev (fun k => (palaverlaw07_awake.f k).bind fun t => some t) true := Ev.bind awake_ev (Ev.pure _)
end Go.Proofs.Ytbiempnleljciaa.Frm
