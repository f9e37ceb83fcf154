/-
  FrameCut: a frame's bytes, cut off anywhere, or with anything behind them, are none's.
  Conditions: none of our own (what is read takes at most the model's reach).
-/
import Derived.Test.YtbiempnleljciaaStFrameCut
import Derived.Test.YtbiempnleljciaaFrm5
namespace Go.Proofs.Ytbiempnleljciaa.Pure
open Go.RowKit Go.Proofs.Ytbiempnleljciaa.PP Go.Proofs.YtbiempnleljciaaW.PrintWords Go.Proofs.YtbiempnleljciaaW.PrintLast Go.Proofs.YtbiempnleljciaaW.PrintMore Go.Proofs.Ytbiempnleljciaa.Oct Go.Proofs.Ytbiempnleljciaa.Frm
set_option linter.unusedSimpArgs false
set_option linter.unusedVariables false

theorem cut_ev {kind dt : Int} {ids : List ByteArray} {bits : ByteArray} {texts : List ByteArray} (h : rightB kind dt ids bits texts = true) (hm : (enc kind dt ids bits texts).size ≤ 65535) (n : Nat) (hn : n < (enc kind dt ids bits texts).size) :
    Frm.Ev (fun k => frame_Decode.f k ((enc kind dt ids bits texts).extract 0 n)) (Z 2) := by
  have hz : ((enc kind dt ids bits texts).extract 0 n).size = n := by rw [ext_size _ _ _ (by omega) (by omega)]; omega
  obtain ⟨r, hr, hc⟩ := decode_sound ((enc kind dt ids bits texts).extract 0 n) (by omega)
  rcases hc with rfl | ⟨kind2, dt2, ids2, bits2, texts2, h2, he, rfl⟩
  · exact hr
  · exfalso
    have e : enc kind dt ids bits texts = enc kind2 dt2 ids2 bits2 texts2 ++ (enc kind dt ids bits texts).extract n (enc kind dt ids bits texts).size := by
      rw [he]
      apply bytesOf_inj
      rw [bytesOf_app, bytesOf_ext, bytesOf_ext, List.drop_zero]
      rw [show List.take (enc kind dt ids bits texts).size (bytesOf (enc kind dt ids bits texts)) = bytesOf (enc kind dt ids bits texts) from List.take_of_length_le (by rw [bytesOf_length]; exact Nat.le_refl _), List.take_append_drop]
    have hb := decode_back h2 ((enc kind dt ids bits texts).extract n (enc kind dt ids bits texts).size) (by rw [← e]; exact hm)
    have hz2 : ((enc kind dt ids bits texts).extract n (enc kind dt ids bits texts).size).size = (enc kind dt ids bits texts).size - n := ext_size _ _ _ (by omega) (Nat.le_refl _)
    rw [← e, if_neg (by omega)] at hb
    have hb2 := decode_back h ⟨#[]⟩ (by rw [app_nil]; exact hm)
    rw [app_nil, if_pos (show (⟨#[]⟩ : ByteArray).size = 0 from rfl)] at hb2
    have := Frm.Ev.one hb hb2
    simp [Z] at this
theorem FrameCut : palaverlaw07_FrameCut.Stmt := by
  intro kind dt ids bits texts p more _ _ hi ht _ hmore
  suffices h : Frm.Ev (fun k => palaverlaw07_FrameCut.f k kind dt ids bits texts p more) true from h.get
  unfold palaverlaw07_FrameCut.f
  obtain ⟨g, hg⟩ := great_ev kind dt ids bits texts
  refine Frm.Ev.bind hg ?_
  have bad : ∀ (x : ByteArray) (e : Int), e ≠ 0 → Frm.Ev (fun k => palaverlaw07_FrameCut.j0 k p more x e true) true := fun x e he => Frm.Ev.succ (fun k => by
    show palaverlaw07_FrameCut.j0 (k + 1) p more x e true = (palaverlaw07_awake.f k).bind fun t => some t
    simp only [palaverlaw07_FrameCut.j0]
    rw [if_pos trivial, if_neg he]) awake_then
  cases g
  · simp only [Bool.false_eq_true, if_false]
    refine Frm.Ev.bind (encode_ev kind dt ids bits texts hi ht) ?_
    unfold encR
    cases h : rightB kind dt ids bits texts
    · simp only [Bool.false_eq_true, if_false, show ¬ (2 : Int) = 0 by decide]
      exact bad _ _ (by decide)
    · simp only [if_true]
      by_cases c : (enc kind dt ids bits texts).size > 65535
      · simp only [show 65535 < (enc kind dt ids bits texts).size from c, if_true, show ¬ (3 : Int) = 0 by decide, if_false]
        exact bad _ _ (by decide)
      · simp only [show ¬ 65535 < (enc kind dt ids bits texts).size from c, if_false, if_true]
        have hs := (enc_size h).1
        have hcut := cut_ev h (by omega)
        have hmo := fun hx : (enc kind dt ids bits texts ++ more).size ≤ 65535 => decode_back h more hx
        generalize enc kind dt ids bits texts = s at *
        rw [show ((s.size : Int) == 0) = false from beq_eq_false_iff_ne.2 (by omega)]
        have e1 : IntKind.u64.wrap (s.size : Int) = s.size := by rw [u64w]; omega
        have e2 : 0 ≤ IntKind.u64.wrap p := by rw [u64w]; omega
        have t1 : 0 ≤ Int.tmod (IntKind.u64.wrap p) (s.size : Int) := Int.tmod_nonneg _ e2
        have t2 : Int.tmod (IntKind.u64.wrap p) (s.size : Int) < (s.size : Int) := Int.tmod_lt_of_pos _ (by omega)
        generalize hq : Int.tmod (IntKind.u64.wrap p) (s.size : Int) = q at *
        have e3 : wrap64 q = q := w64 (by omega) (by omega)
        have last : ∀ b : Bool, (b = false → 0 < more.size) → Frm.Ev (fun k => palaverlaw07_FrameCut.j1 k more s 2 b) true := by
          intro b hb
          cases b
          · have hpos := hb rfl
            refine Frm.Ev.succ (G := fun k => (frame_Decode.f k (s ++ more)).bind fun bt => if bt.2.2.2.2.2 = 0 then some false else (palaverlaw07_awake.f k).bind fun t => some t) (fun k => ?_) ?_
            · simp only [palaverlaw07_FrameCut.j1]
              rw [if_neg (by decide), if_pos (by omega)]
              simp only [if_true]
            · by_cases c2 : (s ++ more).size ≤ 65535
              · have := hmo c2
                rw [if_neg (by omega)] at this
                refine Frm.Ev.bind this ?_
                simp only [Z, show ¬ (2 : Int) = 0 by decide, if_false]
                exact awake_then
              · refine Frm.Ev.bind (decode_long _ (by omega)) ?_
                simp only [Z, show ¬ (3 : Int) = 0 by decide, if_false]
                exact awake_then
          · refine Frm.Ev.succ (fun k => ?_) awake_then
            simp only [palaverlaw07_FrameCut.j1]
            rw [if_pos trivial, if_pos trivial]
        refine Frm.Ev.succ (G := fun k => (frame_Decode.f k (s.extract 0 q.toNat)).bind fun bt => if (more.size : Int) = 0 then palaverlaw07_FrameCut.j1 k more s bt.2.2.2.2.2 true else palaverlaw07_FrameCut.j1 k more s bt.2.2.2.2.2 (decide ((more.size : Int) > 65535))) (fun k => ?_) ?_
        · simp only [palaverlaw07_FrameCut.j0, e1, hq, e3]
          rw [if_neg (by decide), if_neg (by omega), if_pos t1, if_pos (by omega)]
        · refine Frm.Ev.bind (hcut q.toNat (by omega)) ?_
          simp only [Z]
          by_cases c3 : (more.size : Int) = 0
          · simp only [c3, if_true]
            exact last true (fun z => by cases z)
          · simp only [c3, if_false]
            exact last _ (fun _ => by omega)
  · simp only [if_true]
    exact awake_then
end Go.Proofs.Ytbiempnleljciaa.Pure
