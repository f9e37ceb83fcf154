/-
  ShaApart: unlike tags or lists of texts have unlike inputs, like ones one.
  Conditions: none of our own (what is read takes at most the model's reach; the program's table reads as its text lays it: the card's tie).
-/
import Derived.Test.YtlnodlhlbaigkaaDoorStShaApart
import Derived.Test.YtlnodlhlbaigkaaDoorSha2
namespace Go.Proofs.YtlnodlhlbaigkaaDoor.Pure
open Go.RowKit Go.Proofs.YtlnodlhlbaigkaaDoor.PP Go.Proofs.YtlnodlhlbaigkaaDoorW.PrintWords Go.Proofs.YtlnodlhlbaigkaaDoorW.PrintLast Go.Proofs.YtlnodlhlbaigkaaDoorW.PrintMore Go.Proofs.YtlnodlhlbaigkaaDoor.Sha
set_option linter.unusedSimpArgs false
set_option linter.unusedVariables false

theorem apart_loop (a b : Int) (ha : 0 ≤ a) (ha2 : a < 256) (hb : 0 ≤ b) (hb2 : b < 256) (l m : List ByteArray) (hl : ∀ s ∈ l, s.size ≤ 2000) (hm : ∀ s ∈ m, s.size ≤ 2000) (hl2 : l.length ≤ 500) (hm2 : m.length ≤ 500) :
    ∀ (d i : Nat) (x : Bool), i + d = l.length → (x = true → a = b ∧ l.length = m.length ∧ ∀ j, j < i → at_ l j = at_ m j) → (x = false → ¬ (a = b ∧ l = m)) → Sha.Ev (fun k => palaverlaw02_ShaApart.l0 k a b l m x (i : Int)) true := by
  have wa : wrap64 a = a := Sha.w64 (by omega) (by omega)
  have wb : wrap64 b = b := Sha.w64 (by omega) (by omega)
  have fin : ∀ x : Bool, (x = true → a = b ∧ l = m) → (x = false → ¬ (a = b ∧ l = m)) → Sha.Ev (fun k => (sha_Input.f k (wrap64 a) l).bind fun t => (sha_Input.f k (wrap64 b) m).bind fun u => if ((t.toList == u.toList) == x) = true then ((palaverlaw02_awake.f k).bind fun t => some t) else some false) true := by
    intro x h1 h2
    rw [wa, wb]
    refine Sha.Ev.bind (input_small a l hl hl2) (Sha.Ev.bind (input_small b m hm hm2) ?_)
    have e : ((([sha_Input.u8 a] ++ cat l) == ([sha_Input.u8 b] ++ cat m)) == x) = true := by
      cases x
      · have : ¬ ([sha_Input.u8 a] ++ cat l) = ([sha_Input.u8 b] ++ cat m) := by
          intro z
          simp only [List.cons_append, List.nil_append, List.cons.injEq] at z
          exact h2 rfl ⟨tag_inj ha ha2 hb hb2 z.1, cat_inj l m hl hm z.2⟩
        rw [beq_eq_false_iff_ne.2 this]
        rfl
      · obtain ⟨e1, e2⟩ := h1 rfl
        subst e1 e2
        simp
    simp only [toList_mk]
    simp only [e, if_true]
    exact awake_then
  intro d
  induction d with
  | zero =>
    intro i x h h1 h2
    have hx : x = true → a = b ∧ l = m := by
      intro z
      obtain ⟨e1, e2, e3⟩ := h1 z
      refine ⟨e1, List.ext_getElem e2 (fun j hj hj2 => ?_)⟩
      have := e3 j (by omega)
      unfold at_ rdOf at this
      simpa [List.getD, hj, hj2] using this
    refine Sha.Ev.succ (fun k => ?_) (fin x hx h2)
    simp only [palaverlaw02_ShaApart.l0]
    rw [if_neg (by omega)]
  | succ d ih =>
    intro i x h h1 h2
    cases x
    · refine Sha.Ev.succ (fun k => ?_) (fin false (fun z => by cases z) h2)
      simp only [palaverlaw02_ShaApart.l0]
      rw [if_pos (by omega), if_neg (by decide)]
    · obtain ⟨e1, e2, e3⟩ := h1 rfl
      have e9 : wrap64 ((i : Int) + 1) = ((i + 1 : Nat) : Int) := by rw [Sha.w64 (by omega) (by omega)]; omega
      refine Sha.Ev.succ (fun k => ?_) (ih (i + 1) ((at_ l i).toList == (at_ m i).toList) (by omega) (fun z => ⟨e1, e2, fun j hj => ?_⟩) (fun z => ?_))
      · unfold at_
        simp only [palaverlaw02_ShaApart.l0, e9]
        rw [if_pos (by omega), if_pos trivial, if_pos (by omega), if_pos (by omega)]
      · by_cases e : j = i
        · subst e
          rw [beq_iff_eq, ByteArray.toList_eq, ByteArray.toList_eq] at z
          exact Oct.ba_ext z
        · exact e3 j (by omega)
      · rintro ⟨_, rfl⟩
        simp at z
theorem ShaApart : palaverlaw02_ShaApart.Stmt := by
  intro a b l m wa wb hl hm
  have ha : 0 ≤ a ∧ a < 256 := by
    have h := wa
    simp [Lit.wf] at h
    have e1 : IntKind.u8.min = 0 := by decide
    have e2 : IntKind.u8.max = 255 := by decide
    omega
  have hb : 0 ≤ b ∧ b < 256 := by
    have h := wb
    simp [Lit.wf] at h
    have e1 : IntKind.u8.min = 0 := by decide
    have e2 : IntKind.u8.max = 255 := by decide
    omega
  suffices h : Sha.Ev (fun k => palaverlaw02_ShaApart.f k a b l m) true from h.get
  have big : Sha.Ev (fun k => palaverlaw02_ShaApart.j0 k a b l m true) true := Sha.Ev.succ (fun k => by
    show palaverlaw02_ShaApart.j0 (k + 1) a b l m true = (palaverlaw02_awake.f k).bind fun t => some t
    simp only [palaverlaw02_ShaApart.j0]
    rw [if_pos trivial]) awake_then
  obtain ⟨n1, hn1, c1⟩ := size_f l (by omega)
  obtain ⟨n2, hn2, c2⟩ := size_f m (by omega)
  unfold palaverlaw02_ShaApart.f
  refine Sha.Ev.bind hn1 ?_
  by_cases k1 : n1 > 2000
  · simp only [k1, if_true]
    exact big
  · simp only [k1, if_false]
    refine Sha.Ev.bind hn2 ?_
    by_cases k2 : n2 > 2000
    · simp only [k2, decide_true]
      exact big
    · simp only [k2, decide_false]
      obtain ⟨l1, l2⟩ := c1 (by omega)
      obtain ⟨m1, m2⟩ := c2 (by omega)
      have main : ∀ x : Bool, (x = true → a = b ∧ l.length = m.length) → (x = false → ¬ (a = b ∧ l = m)) → Sha.Ev (fun k => palaverlaw02_ShaApart.j1 k a b l m x) true := by
        intro x h1 h2
        refine Sha.Ev.succ (fun k => palaverlaw02_ShaApart.j1.eq_2 a b l m x k) ?_
        exact apart_loop a b ha.1 ha.2 hb.1 hb.2 l m l1 m1 l2 m2 l.length 0 x (by omega) (fun z => ⟨(h1 z).1, (h1 z).2, fun j hj => absurd hj (by omega)⟩) h2
      by_cases e : a = b
      · refine Sha.Ev.succ (fun k => ?_) (main ((l.length : Int) == (m.length : Int)) (fun z => ⟨e, by simp at z; omega⟩) (fun z => ?_))
        · simp only [palaverlaw02_ShaApart.j0]
          rw [if_neg (by decide), if_pos e]
        · rintro ⟨_, rfl⟩
          simp at z
      · refine Sha.Ev.succ (fun k => ?_) (main false (fun z => by cases z) (fun _ z => e z.1))
        simp only [palaverlaw02_ShaApart.j0]
        rw [if_neg (by decide), if_neg e]
end Go.Proofs.YtlnodlhlbaigkaaDoor.Pure
