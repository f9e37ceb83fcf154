/-
  FrameOwn: what is decoded is its asker's own: spoilt, the next answer is right still.
  Conditions: none of our own (what is read takes at most the model's reach).
-/
import Derived.Test.YtbiempnleljciaaStFrameOwn
import Derived.Test.YtbiempnleljciaaFrm5
namespace Go.Proofs.Ytbiempnleljciaa.Pure
open Go.RowKit Go.Proofs.Ytbiempnleljciaa.PP Go.Proofs.YtbiempnleljciaaW.PrintWords Go.Proofs.YtbiempnleljciaaW.PrintLast Go.Proofs.YtbiempnleljciaaW.PrintMore Go.Proofs.Ytbiempnleljciaa.Oct Go.Proofs.Ytbiempnleljciaa.Frm
set_option linter.unusedSimpArgs false
set_option linter.unusedVariables false

theorem decode_any (s : ByteArray) : ∃ kind dt ids bits texts e, Frm.Ev (fun k => frame_Decode.f k s) (kind, dt, ids, bits, texts, e) ∧ ids.length ≤ 64 ∧ texts.length ≤ 16 := by
  by_cases c : s.size > 65535
  · exact ⟨0, 0, [], ⟨#[]⟩, [], 3, decode_long s c, by simp, by simp⟩
  · obtain ⟨r, hr, hc⟩ := decode_sound s (by omega)
    rcases hc with rfl | ⟨kind, dt, ids, bits, texts, h, he, rfl⟩
    · exact ⟨0, 0, [], ⟨#[]⟩, [], 2, hr, by simp, by simp⟩
    · exact ⟨kind, dt, ids, bits, texts, 0, hr, (right_len h).1, (right_len h).2⟩
theorem own1 (s : ByteArray) (e kind dt a b : Int) (ids : List ByteArray) (bits c : ByteArray) (texts : List ByteArray) (hd : Frm.Ev (fun k => frame_Decode.f k s) (kind, dt, ids, bits, texts, e)) (hi : ids.length ≤ 64) (ht : texts.length ≤ 16) (l2 : List ByteArray) :
    ∀ (m i : Nat) (l : List ByteArray), i + m = l.length → l.length ≤ 16 → Frm.Ev (fun k => palaverlaw07_FrameOwn.l1 k s e e (i : Int) a b l2 c l kind dt ids bits texts) true
  | 0, i, l, h, hl => by
    refine Frm.Ev.succ (G := fun k => (frame_Decode.f k s).bind fun bt => if e = e then (if e = bt.2.2.2.2.2 then ((palaverref07_Same.f k kind dt ids bits texts bt.1 bt.2.1 bt.2.2.1 bt.2.2.2.1 bt.2.2.2.2.1).bind fun t => if t = true then ((palaverlaw07_awake.f k).bind fun t => some t) else some false) else some false) else some false) (fun k => ?_) ?_
    · simp only [palaverlaw07_FrameOwn.l1]
      rw [if_neg (by omega)]
    · refine Frm.Ev.bind hd ?_
      simp only [if_true]
      refine Frm.Ev.bind (same_ev kind dt ids bits texts (by omega) (by omega)) ?_
      simp only [if_true]
      exact awake_then
  | m + 1, i, l, h, hl => by
    have ih := own1 s e kind dt a b ids bits c texts hd hi ht l2 m (i + 1) (l.set i ⟨#[]⟩) (by rw [List.length_set]; omega) (by rw [List.length_set]; exact hl)
    have e2 : wrap64 ((i : Int) + 1) = ((i + 1 : Nat) : Int) := by rw [w64 (by omega) (by omega)]; omega
    refine Frm.Ev.succ (fun k => ?_) ih
    simp only [palaverlaw07_FrameOwn.l1, e2]
    rw [if_pos (by omega), if_pos (by omega)]
    rfl
theorem own0 (s : ByteArray) (e kind dt a b : Int) (ids : List ByteArray) (bits c : ByteArray) (texts l4 : List ByteArray) (hd : Frm.Ev (fun k => frame_Decode.f k s) (kind, dt, ids, bits, texts, e)) (hi : ids.length ≤ 64) (ht : texts.length ≤ 16) (h4 : l4.length ≤ 16) :
    ∀ (m i : Nat) (l : List ByteArray), i + m = l.length → l.length ≤ 64 → Frm.Ev (fun k => palaverlaw07_FrameOwn.l0 k s e e (i : Int) a b l c l4 kind dt ids bits texts) true
  | 0, i, l, h, hl => by
    refine Frm.Ev.succ (fun k => ?_) (own1 s e kind dt a b ids bits c texts hd hi ht l l4.length 0 l4 (by omega) h4)
    simp only [palaverlaw07_FrameOwn.l0]
    rw [if_neg (by omega)]
    rfl
  | m + 1, i, l, h, hl => by
    have ih := own0 s e kind dt a b ids bits c texts l4 hd hi ht h4 m (i + 1) (l.set i ⟨#[]⟩) (by rw [List.length_set]; omega) (by rw [List.length_set]; exact hl)
    have e2 : wrap64 ((i : Int) + 1) = ((i + 1 : Nat) : Int) := by rw [w64 (by omega) (by omega)]; omega
    refine Frm.Ev.succ (fun k => ?_) ih
    simp only [palaverlaw07_FrameOwn.l0, e2]
    rw [if_pos (by omega), if_pos (by omega)]
    rfl
theorem FrameOwn : palaverlaw07_FrameOwn.Stmt := by
  intro s _
  suffices h : Frm.Ev (fun k => palaverlaw07_FrameOwn.f k s) true from h.get
  unfold palaverlaw07_FrameOwn.f
  obtain ⟨kind, dt, ids, bits, texts, e, hd, hi, ht⟩ := decode_any s
  refine Frm.Ev.bind hd (Frm.Ev.bind hd ?_)
  exact own0 s e kind dt kind dt ids bits bits texts texts hd hi ht ht ids.length 0 ids (by omega) hi
end Go.Proofs.Ytbiempnleljciaa.Pure
