/-
  Of two unlike digests each has a digit that is lower than the other one's.
  Conditions: none.
-/
import Derived.Test.YtkdbobccchkdjaaDoorStWotsLower
import Derived.Test.YtkdbobccchkdjaaDoorWts4
namespace Go.Proofs.YtkdbobccchkdjaaDoor.Sha
open Go.RowKit Go.Proofs.YtkdbobccchkdjaaDoor.PP Go.Proofs.YtkdbobccchkdjaaDoorW.PrintWords Go.Proofs.YtkdbobccchkdjaaDoorW.PrintLast Go.Proofs.YtkdbobccchkdjaaDoorW.PrintMore
set_option linter.unusedSimpArgs false
set_option linter.unusedVariables false

def an (l m : List Int) (j : Nat) : Bool := (List.range j).any fun q => decide (rd l (q : Int) < rd m (q : Int))
theorem an_succ (l m : List Int) (j : Nat) : an l m (j + 1) = (an l m j || decide (rd l (j : Int) < rd m (j : Int))) := by
  unfold an
  rw [List.range_succ, List.any_append]
  simp
theorem an_true (l m : List Int) (n q : Nat) (hq : q < n) (h : rd l (q : Int) < rd m (q : Int)) : an l m n = true := by
  unfold an
  rw [List.any_eq_true]
  exact ⟨q, List.mem_range.2 hq, decide_eq_true h⟩
theorem low_l (a0 a1 f g : ByteArray) (hf : Sha.Ev (fun k => palaverlaw03_fit.f k a0) f) (hg : Sha.Ev (fun k => palaverlaw03_fit.f k a1) g) (l m : List Int) (hl : l.length = 67) (hm : m.length = 67) (hend : f = g ∨ an l m 67 = true ∧ an m l 67 = true) :
    ∀ (d j : Nat) (b c : Bool), j + d = 67 → b = an l m j → c = an m l j → Sha.Ev (fun k => palaverlaw03_WotsLower.l0 k a0 a1 l m b c (j : Int)) true
  | 0, j, b, c, h, hb, hc => by
    obtain rfl : j = 67 := by omega
    refine Ev.succ (G := fun k => (palaverlaw03_fit.f k a0).bind fun t => (palaverlaw03_fit.f k a1).bind fun u => (if t.toList = u.toList then ((palaverlaw03_awake.f k).bind fun z => some z) else (if b = true then (if c = true then ((palaverlaw03_awake.f k).bind fun z => some z) else (some false)) else (some false)))) (fun k => ?_) (Ev.bind hf (Ev.bind hg ?_))
    · simp only [palaverlaw03_WotsLower.l0]
      rw [if_neg (by omega)]
    · by_cases e : f = g
      · exact ifs (congrArg ByteArray.toList e) awake3_then
      · rcases hend with h | ⟨h1, h2⟩
        · exact absurd h e
        · exact ifn (fun z => e ((Oct.toList_eq _ _).1 z)) (ifs (hb.trans h1) (ifs (hc.trans h2) awake3_then))
  | d + 1, j, b, c, h, hb, hc => by
    have ih := fun b c => low_l a0 a1 f g hf hg l m hl hm hend d (j + 1) b c (by omega)
    have e1 := an_succ l m j
    have e2 := an_succ m l j
    have hj := upI j (by omega)
    have i0 : (j : Int) < 67 := by omega
    have i1 : (0 : Int) ≤ (j : Int) := by omega
    have i2 : (j : Int) < (l.length : Int) := by omega
    have i3 : (j : Int) < (m.length : Int) := by omega
    cases b with
    | true =>
      rw [← hb, Bool.true_or] at e1
      cases c with
      | true =>
        rw [← hc, Bool.true_or] at e2
        refine Ev.succ (fun k => ?_) (ih true true e1.symm e2.symm)
        simp only [palaverlaw03_WotsLower.l0, hj, if_pos i0, if_true]
      | false =>
        rw [← hc, Bool.false_or] at e2
        refine Ev.succ (fun k => ?_) (ih true (decide (rd l (j : Int) > rd m (j : Int))) e1.symm e2.symm)
        simp only [palaverlaw03_WotsLower.l0, hj, if_pos i0, if_pos i1, if_pos i2, if_pos i3, if_true]
        rw [if_neg (by decide)]
    | false =>
      rw [← hb, Bool.false_or] at e1
      cases c with
      | true =>
        rw [← hc, Bool.true_or] at e2
        refine Ev.succ (fun k => ?_) (ih (decide (rd l (j : Int) < rd m (j : Int))) true e1.symm e2.symm)
        simp only [palaverlaw03_WotsLower.l0, hj, if_pos i0, if_pos i1, if_pos i2, if_pos i3, if_true]
        rw [if_neg (by decide)]
      | false =>
        rw [← hc, Bool.false_or] at e2
        refine Ev.succ (fun k => ?_) (ih (decide (rd l (j : Int) < rd m (j : Int))) (decide (rd l (j : Int) > rd m (j : Int))) e1.symm e2.symm)
        simp only [palaverlaw03_WotsLower.l0, hj, if_pos i0, if_pos i1, if_pos i2, if_pos i3]
        rw [if_neg (by decide), if_neg (by decide)]
/-! unlike digests have unlike digits, and not all to one side -/
theorem rd_zero (x : Int) (l : List Int) : rd (x :: l) 0 = x := rfl
theorem rd_up (x : Int) (l : List Int) (q : Nat) : rd (x :: l) ((q + 1 : Nat) : Int) = rd l (q : Int) := by
  unfold rd
  rw [Int.toNat_natCast, Int.toNat_natCast]
  rfl
theorem hx_side : ∀ (u v : List Int), u.length = v.length → (∀ c ∈ u, 0 ≤ c ∧ c < 256) → (∀ c ∈ v, 0 ≤ c ∧ c < 256) → (∀ q : Nat, q < 2 * u.length → rd (hx v) (q : Int) ≤ rd (hx u) (q : Int)) → lk u ≤ lk v ∧ (lk u = lk v → u = v)
  | [], [], _, _, _, _ => ⟨Int.le_refl _, fun _ => rfl⟩
  | [], _ :: _, h, _, _, _ => by simp at h
  | _ :: _, [], h, _, _, _ => by simp at h
  | b :: u, c :: v, h, hu, hv, hq => by
    have hb := hu b (by simp)
    have hc := hv c (by simp)
    have ih := hx_side u v (by simpa using h) (fun x hx => hu x (List.mem_cons_of_mem _ hx)) (fun x hx => hv x (List.mem_cons_of_mem _ hx)) (fun q hq2 => by
      have := hq (q + 1 + 1) (by simp only [List.length_cons]; omega)
      show rd (hx v) (q : Int) ≤ rd (hx u) (q : Int)
      have e1 : rd (hx (c :: v)) ((q + 1 + 1 : Nat) : Int) = rd (hx v) (q : Int) := by
        show rd (c / 16 :: c % 16 :: hx v) ((q + 1 + 1 : Nat) : Int) = _
        rw [rd_up, rd_up]
      have e2 : rd (hx (b :: u)) ((q + 1 + 1 : Nat) : Int) = rd (hx u) (q : Int) := by
        show rd (b / 16 :: b % 16 :: hx u) ((q + 1 + 1 : Nat) : Int) = _
        rw [rd_up, rd_up]
      rw [e1, e2] at this
      exact this)
    have q0 : c / 16 ≤ b / 16 := hq 0 (by simp only [List.length_cons]; omega)
    have q1 : c % 16 ≤ b % 16 := hq 1 (by simp only [List.length_cons]; omega)
    have e1 : lk (b :: u) = (30 - b / 16 - b % 16) + lk u := rfl
    have e2 : lk (c :: v) = (30 - c / 16 - c % 16) + lk v := rfl
    rw [e1, e2]
    refine ⟨by omega, fun he => ?_⟩
    have h1 : b = c := by omega
    have h2 : lk u = lk v := by omega
    rw [h1, ih.2 h2]
theorem rd_app (u v : List Int) (q : Nat) : (q < u.length → rd (u ++ v) (q : Int) = rd u (q : Int)) ∧ rd (u ++ v) ((u.length + q : Nat) : Int) = rd v (q : Int) := by
  unfold rd
  rw [Int.toNat_natCast, Int.toNat_natCast]
  constructor
  · intro h
    rw [List.getD_eq_getElem?_getD, List.getD_eq_getElem?_getD, List.getElem?_append_left h]
  · rw [List.getD_eq_getElem?_getD, List.getD_eq_getElem?_getD, List.getElem?_append_right (by omega), Nat.add_sub_cancel_left]
theorem not_side (a b : ByteArray) (ha : a.size = 32) (hb : b.size = 32) (hn : a ≠ b) : ∃ q : Nat, q < 67 ∧ rd (Dg a) (q : Int) < rd (Dg b) (q : Int) := by
  by_cases h : ∃ q : Nat, q < 67 ∧ rd (Dg a) (q : Int) < rd (Dg b) (q : Int)
  · exact h
  · exfalso
    have hall : ∀ q : Nat, q < 67 → rd (Dg b) (q : Int) ≤ rd (Dg a) (q : Int) := fun q hq => by
      by_cases c : rd (Dg a) (q : Int) < rd (Dg b) (q : Int)
      · exact absurd ⟨q, hq, c⟩ h
      · omega
    have la := bytesOf_length a
    have lb := bytesOf_length b
    have xa := hx_len (bytesOf a)
    have xb := hx_len (bytesOf b)
    have hs := hx_side (bytesOf a) (bytesOf b) (by omega) (Oct.bytesOf_mem a) (Oct.bytesOf_mem b) (fun q hq => by
      have := hall q (by omega)
      unfold Dg at this
      rw [(rd_app _ _ q).1 (by omega), (rd_app _ _ q).1 (by omega)] at this
      exact this)
    have ka := lk_le (bytesOf a) (Oct.bytesOf_mem a)
    have kb := lk_le (bytesOf b) (Oct.bytesOf_mem b)
    have f : ∀ q : Nat, q < 3 → rd (fi (lk (bytesOf b))) (q : Int) ≤ rd (fi (lk (bytesOf a))) (q : Int) := fun q hq => by
      have := hall (64 + q) (by omega)
      unfold Dg at this
      have e1 := (rd_app (hx (bytesOf a)) (fi (lk (bytesOf a))) q).2
      have e2 := (rd_app (hx (bytesOf b)) (fi (lk (bytesOf b))) q).2
      rw [xa, la, ha] at e1
      rw [xb, lb, hb] at e2
      rw [e1, e2] at this
      exact this
    have f0 : lk (bytesOf b) / 256 ≤ lk (bytesOf a) / 256 := f 0 (by omega)
    have f1 : lk (bytesOf b) / 16 % 16 ≤ lk (bytesOf a) / 16 % 16 := f 1 (by omega)
    have f2 : lk (bytesOf b) % 16 ≤ lk (bytesOf a) % 16 := f 2 (by omega)
    have he : bytesOf a = bytesOf b := hs.2 (by omega)
    have := congrArg strOfNums he
    rw [nums_bytes2, nums_bytes2] at this
    exact hn this
theorem WotsLower : palaverlaw03_WotsLower.Stmt := by
  intro a0 a1 h0 h1
  refine Ev.get (F := fun k => palaverlaw03_WotsLower.f k a0 a1) ?_
  obtain ⟨f, hf, hz⟩ := fit_ev a0
  obtain ⟨g, hg, hy⟩ := fit_ev a1
  have d1 := digits_ev f
  have d2 := digits_ev g
  rw [if_pos hz] at d1
  rw [if_pos hy] at d2
  have l1 := Dg_len f hz
  have l2 := Dg_len g hy
  have hend : f = g ∨ an (Dg f) (Dg g) 67 = true ∧ an (Dg g) (Dg f) 67 = true := by
    by_cases e : f = g
    · exact .inl e
    · obtain ⟨q, hq, h⟩ := not_side f g hz hy e
      obtain ⟨p, hp, h2⟩ := not_side g f hy hz (fun z => e z.symm)
      exact .inr ⟨an_true _ _ 67 q hq h, an_true _ _ 67 p hp h2⟩
  have := low_l a0 a1 f g hf hg (Dg f) (Dg g) l1 l2 hend 67 0 false false (by omega) rfl rfl
  unfold palaverlaw03_WotsLower.f
  refine Ev.bind hf (Ev.bind d1 (Ev.bind hg (Ev.bind d2 (ifs rfl (ifs rfl (ifs (by show ((Dg f).length : Int) = 67; omega) ?_))))))
  show Sha.Ev (fun k => palaverlaw03_WotsLower.j0 k a0 a1 (Dg f) (Dg g) (((Dg g).length : Int) != 67)) true
  rw [l2]
  refine Ev.succ (fun k => ?_) this
  simp only [palaverlaw03_WotsLower.j0]
  rw [if_neg (by decide)]
  rfl
end Go.Proofs.YtkdbobccchkdjaaDoor.Sha
namespace Go.Proofs.YtkdbobccchkdjaaDoor.Pure
open Go.Proofs.YtkdbobccchkdjaaDoor.PP
theorem WotsLower : palaverlaw03_WotsLower.Stmt := Sha.WotsLower
end Go.Proofs.YtkdbobccchkdjaaDoor.Pure
