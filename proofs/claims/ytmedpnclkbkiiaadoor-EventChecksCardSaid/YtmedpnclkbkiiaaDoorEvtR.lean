/-
  Events: what is right, content and bytes, as the document has it.
  Conditions: none.
-/
import Derived.Test.YtmedpnclkbkiiaaDoorEvt1
import Derived.Test.YtmedpnclkbkiiaaDoorPPx3
namespace Go.Proofs.YtmedpnclkbkiiaaDoor.Oct.Evt
open Go.RowKit Go.Proofs.YtmedpnclkbkiiaaDoor.PP Go.Proofs.YtmedpnclkbkiiaaDoorW.PrintWords Go.Proofs.YtmedpnclkbkiiaaDoorW.PrintLast Go.Proofs.YtmedpnclkbkiiaaDoorW.PrintMore
open Go.Proofs.YtmedpnclkbkiiaaDoor.Sha (ifs ifn)
set_option linter.unusedSimpArgs false
set_option linter.unusedVariables false

theorem rtext_ev (s : ByteArray) (h : s.size ≤ 65535) : Sha.Ev (fun k => palaverref01_Text.f k s) (lay s, true) := by
  refine ⟨8, fun k hk => ?_⟩
  obtain ⟨j, rfl⟩ : ∃ j, k = j + 8 := ⟨k - 8, by omega⟩
  show palaverref01_Text.f (j + 8) s = _
  unfold palaverref01_Text.f
  rw [ref_two _ _ (by omega), if_neg (by omega)]
  simp only [Option.bind_some, if_true]
  rw [if_pos (by rw [strOfNums_size]; simp; omega)]
  rfl
/-! the document's -/
theorem rright_loop (kind : Int) (a : ByteArray) (l : List ByteArray) (b s : ByteArray) (hl : l.length ≤ 9223372036854775807) : ∀ m i : Nat, i + m = l.length →
    Sha.Ev (fun k => palaverref06_Right.l0 k (i : Int) kind a l b s) (fromB (idAt l) l.length i)
  | 0, i, h => by
    refine Sha.Ev.succ (G := fun _ => some true) (fun k => ?_) ?_
    · simp only [palaverref06_Right.l0]
      rw [if_neg (by omega)]
    · rw [show i = l.length by omega, fromB_end]
      exact Sha.Ev.pure _
  | m + 1, i, h => by
    have ih := rright_loop kind a l b s hl m (i + 1) (by omega)
    by_cases hs : (at_ l i).size = 32
    · by_cases h0 : 0 < i
      · by_cases hb : Op.bytesLess (at_ l (i - 1)).toList (at_ l i).toList = true
        · rw [fromB_yes _ _ _ (by omega) ⟨hs, fun _ => hb⟩]
          refine Sha.Ev.succ (fun k => ?_) ih
          have e1 : wrap64 ((i : Int) - 1) = ((i - 1 : Nat) : Int) := by rw [w64 (by omega) (by omega)]; omega
          have e2 : wrap64 ((i : Int) + 1) = ((i + 1 : Nat) : Int) := by rw [w64 (by omega) (by omega)]; omega
          simp only [palaverref06_Right.l0, e1, e2]
          unfold at_ at hs hb
          rw [if_pos (by omega), if_pos (by omega), if_pos (by omega), if_pos (by omega), if_pos (by omega), if_pos (by omega), if_pos hb]
        · rw [fromB_no _ _ _ (by omega) (fun z => hb (z.2 h0))]
          refine Sha.Ev.succ (G := fun _ => some false) (fun k => ?_) (Sha.Ev.pure _)
          have e1 : wrap64 ((i : Int) - 1) = ((i - 1 : Nat) : Int) := by rw [w64 (by omega) (by omega)]; omega
          simp only [palaverref06_Right.l0, e1]
          unfold at_ at hs hb
          rw [if_pos (by omega), if_pos (by omega), if_pos (by omega), if_pos (by omega), if_pos (by omega), if_pos (by omega), if_neg hb]
      · rw [fromB_yes _ _ _ (by omega) ⟨hs, fun z => absurd z h0⟩]
        refine Sha.Ev.succ (fun k => ?_) ih
        have e2 : wrap64 ((i : Int) + 1) = ((i + 1 : Nat) : Int) := by rw [w64 (by omega) (by omega)]; omega
        simp only [palaverref06_Right.l0, e2]
        unfold at_ at hs
        rw [if_pos (by omega), if_pos (by omega), if_pos (by omega), if_neg (by omega)]
    · rw [fromB_no _ _ _ (by omega) (fun z => hs z.1)]
      refine Sha.Ev.succ (G := fun _ => some false) (fun k => ?_) (Sha.Ev.pure _)
      simp only [palaverref06_Right.l0]
      unfold at_ at hs
      rw [if_pos (by omega), if_pos (by omega), if_neg (by omega)]
theorem rj1_ev (x : Bool) (kind : Int) (a : ByteArray) (l : List ByteArray) (b s : ByteArray) (hl : l.length ≤ 9223372036854775807) : Sha.Ev (fun k => palaverref06_Right.j1 k x kind a l b s) (!x && fromB (idAt l) l.length 0) := by
  cases x
  · refine Sha.Ev.succ (fun k => ?_) (rright_loop kind a l b s hl l.length 0 (by omega))
    simp only [palaverref06_Right.j1]
    rfl
  · refine Sha.Ev.succ (G := fun _ => some false) (fun k => ?_) (Sha.Ev.pure _)
    simp only [palaverref06_Right.j1]
    rfl
theorem rj0_ev (x : Bool) (kind : Int) (a : ByteArray) (l : List ByteArray) (b s : ByteArray) (hl : l.length ≤ 9223372036854775807) : Sha.Ev (fun k => palaverref06_Right.j0 k x kind a l b s) (!x && ((decide (kind = 1) == decide (l.length = 0)) && (!(decide (kind = 4) || decide (kind = 5)) || decide (b.size = 32))) && fromB (idAt l) l.length 0) := by
  cases x
  · have e : ((kind == 1) != ((l.length : Int) == 0)) = !(decide (kind = 1) == decide (l.length = 0)) := by
      have e0 : ((l.length : Int) == 0) = decide (l.length = 0) := by
        by_cases h : l.length = 0
        · rw [decide_eq_true h, h]; rfl
        · rw [decide_eq_false h]; exact beq_eq_false_iff_ne.mpr (by omega)
      rw [e0]
      rfl
    have e5 : ((b.size : Int) != 32) = !decide (b.size = 32) := by
      by_cases h : b.size = 32
      · rw [decide_eq_true h, h]; rfl
      · rw [decide_eq_false h]; exact bne_iff_ne.mpr (by omega)
    cases c : (decide (kind = 1) == decide (l.length = 0))
    · rw [Bool.false_and, Bool.and_false, Bool.false_and]
      refine Sha.Ev.succ (fun k => ?_) (rj1_ev true kind a l b s hl)
      simp only [palaverref06_Right.j0, e, c]
      rfl
    · by_cases k4 : kind = 4 ∨ kind = 5
      · refine Sha.Ev.succ (G := fun k => palaverref06_Right.j1 k ((b.size : Int) != 32) kind a l b s) (fun k => ?_) ?_
        · simp only [palaverref06_Right.j0, e, c]
          rcases k4 with k4 | k4
          · subst k4; rfl
          · subst k4; rfl
        · have := rj1_ev ((b.size : Int) != 32) kind a l b s hl
          rw [e5] at this ⊢
          rw [show (decide (kind = 4) || decide (kind = 5)) = true by simpa using k4]
          simpa using this
      · refine Sha.Ev.succ (G := fun k => palaverref06_Right.j1 k false kind a l b s) (fun k => ?_) ?_
        · simp only [palaverref06_Right.j0, e, c]
          rw [if_neg (by decide), if_neg (by decide), if_neg (fun z => k4 (Or.inl z)), if_neg (fun z => k4 (Or.inr z))]
        · have := rj1_ev false kind a l b s hl
          rw [show (decide (kind = 4) || decide (kind = 5)) = false by simpa using k4]
          simpa using this
  · refine Sha.Ev.succ (G := fun _ => some false) (fun k => ?_) (Sha.Ev.pure _)
    simp only [palaverref06_Right.j0]
    rfl
theorem rright_ev (kind : Int) (a : ByteArray) (ps : List ByteArray) (b s : ByteArray) (hl : ps.length ≤ 9223372036854775807) : Sha.Ev (fun k => palaverref06_Right.f k kind a ps b s) (rightB kind a ps b s) := by
  have hno : Sha.Ev (fun k => palaverref06_Right.j0 k true kind a ps b s) false := rj0_ev true kind a ps b s hl
  unfold palaverref06_Right.f rightB tailB
  by_cases k1 : kind < 1
  · have : ¬ 1 ≤ kind := by omega
    simpa [k1, this] using hno
  · by_cases k5 : kind > 5
    · have : ¬ kind ≤ 5 := by omega
      simpa [k1, k5, this] using hno
    · have g1 : 1 ≤ kind := by omega
      have g2 : kind ≤ 5 := by omega
      by_cases ha : a.size = 32
      · have ha' : (a.size : Int) = 32 := by omega
        by_cases h8 : ps.length ≤ 8
        · by_cases hb : b.size ≤ 200
          · have := rj0_ev (decide ((s.size : Int) > 65535)) kind a ps b s hl
            simp only [k1, k5, ha', show ¬ (ps.length : Int) > 8 by omega, show ¬ (b.size : Int) > 200 by omega, if_true, if_false]
            rw [show (!decide ((s.size : Int) > 65535)) = decide (s.size ≤ 65535) by by_cases q : s.size ≤ 65535 <;> simp [q] <;> omega] at this
            simp only [g1, g2, ha, h8, hb, decide_true, Bool.true_and, Bool.and_true]
            rw [show (fromB (idAt ps) ps.length 0 && ((decide (kind = 1) == decide (ps.length = 0)) && (!(decide (kind = 4) || decide (kind = 5)) || decide (b.size = 32)) && decide (s.size ≤ 65535))) = (decide (s.size ≤ 65535) && ((decide (kind = 1) == decide (ps.length = 0)) && (!(decide (kind = 4) || decide (kind = 5)) || decide (b.size = 32))) && fromB (idAt ps) ps.length 0) by
              generalize fromB (idAt ps) ps.length 0 = p
              generalize decide (s.size ≤ 65535) = q
              generalize ((decide (kind = 1) == decide (ps.length = 0)) && (!(decide (kind = 4) || decide (kind = 5)) || decide (b.size = 32))) = t
              cases p <;> cases q <;> cases t <;> rfl]
            exact this
          · have e2 : (b.size : Int) > 200 := by omega
            simpa [k1, k5, ha', show ¬ (ps.length : Int) > 8 by omega, e2, hb] using hno
        · have e1 : (ps.length : Int) > 8 := by omega
          simpa [k1, k5, ha', e1, h8] using hno
      · have ha' : ¬ (a.size : Int) = 32 := by omega
        simpa [k1, k5, ha', ha] using hno
/-! the document's -/
theorem rcont_loop (x : ByteArray) (kind : Int) (a : ByteArray) (l : List ByteArray) (b s : ByteArray) (h : ∀ i, i < l.length → (at_ l i).size = 32) (hl : l.length ≤ 100) (hx : x.size ≤ 100000) : ∀ (m i : Nat) (acc : ByteArray), i + m = l.length → acc.size ≤ 100 + i * 32 →
    Sha.Ev (fun k => palaverref06_Content.l0 k x acc (i : Int) kind a l b s) ((acc ++ catI (l.drop i)) ++ x)
  | 0, i, acc, hi, ha => by
    rw [List.drop_of_length_le (by omega), show acc ++ catI [] = acc from app_nil acc]
    refine Sha.Ev.succ (G := fun _ => some (acc ++ x)) (fun k => ?_) (Sha.Ev.pure _)
    simp only [palaverref06_Content.l0]
    rw [if_neg (by omega), if_pos (by omega)]
  | m + 1, i, acc, hi, ha => by
    have h1 := h i (by omega)
    have ih := rcont_loop x kind a l b s h hl hx m (i + 1) (acc ++ at_ l i) (by omega) (by rw [app_size]; omega)
    have hd : l.drop i = at_ l i :: l.drop (i + 1) := by
      rw [List.drop_eq_getElem_cons (by omega)]
      congr 1
      unfold at_ rdOf
      simp [show i < l.length by omega]
    rw [hd, show acc ++ catI (at_ l i :: l.drop (i + 1)) = (acc ++ at_ l i) ++ catI (l.drop (i + 1)) from (app_assoc _ _ _).symm]
    have e2 : wrap64 ((i : Int) + 1) = ((i + 1 : Nat) : Int) := by rw [w64 (by omega) (by omega)]; omega
    refine Sha.Ev.succ (fun k => ?_) ih
    simp only [palaverref06_Content.l0, e2]
    unfold at_ at h1 ⊢
    rw [if_pos (by omega), if_pos (by omega), if_pos (by omega)]
theorem rcont_ev {kind : Int} {a : ByteArray} {ps : List ByteArray} {b s : ByteArray} (h : rightB kind a ps b s = true) (z : ByteArray) : Sha.Ev (fun k => palaverref06_Content.f k kind a ps b z) (cont kind a ps b) := by
  obtain ⟨_, _, h3, h4, h5, _, h7⟩ := right_has h
  have z1 : ∀ x : Int, (strOfNums [x]).size = 1 := fun x => by rw [strOfNums_size]; rfl
  unfold palaverref06_Content.f
  refine Sha.Ev.bind (rtext_ev a (by omega)) (Sha.Ev.bind (rtext_ev b (by omega)) ?_)
  simp only [Option.bind_some]
  refine ifs (by rw [z1, lay_size]; omega) (ifs (by rw [app_size, z1, z1, lay_size]; omega) ?_)
  have := rcont_loop (lay b) kind a ps b z h7 (by omega) (by rw [lay_size]; omega) ps.length 0 ((one kind ++ lay a) ++ one ps.length) (by omega) (by rw [app_size, app_size, one_size, one_size, lay_size]; omega)
  exact this
end Go.Proofs.YtmedpnclkbkiiaaDoor.Oct.Evt
