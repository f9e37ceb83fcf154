/-
  Frames: which are right: the program's word and the document's are one.
  Conditions: none.
-/
import Derived.Test.YtbiempnleljciaaOct2
import Derived.Test.YtbiempnleljciaaPPx3
import Derived.Test.YtbiempnleljciaaPPx4
import Derived.Test.YtbiempnleljciaaPPx5
namespace Go.Proofs.Ytbiempnleljciaa.Frm
open Go.RowKit Go.Proofs.Ytbiempnleljciaa.PP Go.Proofs.Ytbiempnleljciaa.Oct Go.Proofs.YtbiempnleljciaaW.PrintWords Go.Proofs.YtbiempnleljciaaW.PrintLast Go.Proofs.YtbiempnleljciaaW.PrintMore
set_option linter.unusedSimpArgs false
set_option linter.unusedVariables false

/-- From some number of rounds on it is told. -/
def Ev {α : Type} (F : Nat → Option α) (v : α) : Prop := ∃ K, ∀ k, K ≤ k → F k = some v
theorem Ev.now {α : Type} {F : Nat → Option α} {v : α} (h : ∀ k, F k = some v) : Ev F v := ⟨0, fun k _ => h k⟩
theorem Ev.pure {α : Type} (v : α) : Ev (fun _ => some v) v := ⟨0, fun _ _ => rfl⟩
theorem Ev.succ {α : Type} {F G : Nat → Option α} {v : α} (hF : ∀ k, F (k + 1) = G k) (h : Ev G v) : Ev F v := by
  obtain ⟨K, h⟩ := h
  refine ⟨K + 1, fun k hk => ?_⟩
  obtain ⟨j, rfl⟩ : ∃ j, k = j + 1 := ⟨k - 1, by omega⟩
  rw [hF]
  exact h j (by omega)
theorem Ev.bind {α β : Type} {F : Nat → Option α} {G : Nat → α → Option β} {v : α} {u : β} (h : Ev F v) (h2 : Ev (fun k => G k v) u) : Ev (fun k => (F k).bind (G k)) u := by
  obtain ⟨K, h⟩ := h
  obtain ⟨L, h2⟩ := h2
  refine ⟨max K L, fun k hk => ?_⟩
  show (F k).bind (G k) = some u
  rw [h k (by omega)]
  exact h2 k (by omega)
theorem Ev.congr {α : Type} {F G : Nat → Option α} {v : α} (h : Ev F v) (e : ∀ k, F k = G k) : Ev G v := by
  obtain ⟨K, h⟩ := h
  exact ⟨K, fun k hk => (e k).symm.trans (h k hk)⟩
theorem Ev.one {α : Type} {F : Nat → Option α} {v u : α} (h : Ev F v) (h2 : Ev F u) : v = u := by
  obtain ⟨K, h⟩ := h
  obtain ⟨L, h2⟩ := h2
  have a := h (max K L) (by omega)
  have b := h2 (max K L) (by omega)
  rw [a] at b
  exact Option.some.inj b
theorem Ev.get {α : Type} {F : Nat → Option α} {v : α} (h : Ev F v) : ∃ k, F k = some v := by
  obtain ⟨K, h⟩ := h
  exact ⟨K, h K (Nat.le_refl _)⟩
theorem Ev.of8 {α : Type} {F : Nat → Option α} {v : α} {n : Nat} (h : ∀ k, n ≤ k → F k = some v) : Ev F v := ⟨n, h⟩

/-- The element at a place. -/
def at_ (l : List ByteArray) (i : Nat) : ByteArray := rdOf ByteArray.empty l (i : Int)
theorem at_cons_zero (x : ByteArray) (l : List ByteArray) : at_ (x :: l) 0 = x := rfl
theorem at_cons_succ (x : ByteArray) (l : List ByteArray) (i : Nat) : at_ (x :: l) (i + 1) = at_ l i := by
  unfold at_ rdOf
  simp
def idAt (l : List ByteArray) (i : Nat) : Prop := (at_ l i).size = 32 ∧ (0 < i → Op.bytesLess (at_ l (i - 1)).toList (at_ l i).toList = true)
def IdsOk (l : List ByteArray) : Prop := ∀ i, i < l.length → idAt l i
def txAt (l : List ByteArray) (i : Nat) : Prop := 1 ≤ (at_ l i).size ∧ (at_ l i).size ≤ 65535
def TextsOk (l : List ByteArray) : Prop := ∀ i, i < l.length → txAt l i
open Classical in
/-- What holds from a place on. -/
noncomputable def fromB (p : Nat → Prop) (n i : Nat) : Bool := decide (∀ j, i ≤ j → j < n → p j)
theorem fromB_end (p : Nat → Prop) (n : Nat) : fromB p n n = true := by
  unfold fromB
  simp only [decide_eq_true_eq]
  exact fun j h1 h2 => absurd h2 (by omega)
theorem fromB_yes (p : Nat → Prop) (n i : Nat) (hi : i < n) (h : p i) : fromB p n i = fromB p n (i + 1) := by
  unfold fromB
  refine decide_eq_decide.2 ⟨fun z j h1 h2 => z j (by omega) h2, fun z j h1 h2 => ?_⟩
  by_cases e : j = i
  · rw [e]; exact h
  · exact z j (by omega) h2
theorem fromB_no (p : Nat → Prop) (n i : Nat) (hi : i < n) (h : ¬ p i) : fromB p n i = false := by
  unfold fromB
  simp only [decide_eq_false_iff_not]
  exact fun z => h (z i (Nat.le_refl _) hi)
theorem size_zero (s : ByteArray) : s.toList = ([] : List UInt8) ↔ s.size = 0 := by
  rw [ByteArray.toList_eq, size_len]
  exact List.length_eq_zero_iff.symm
theorem ids_loop (l : List ByteArray) (hl : l.length ≤ 9223372036854775807) : ∀ m i : Nat, i + m = l.length →
    Ev (fun k => frame_ids.l0 k l l (l.length : Int) (i : Int)) (fromB (idAt l) l.length i && decide ((l.length : Int) ≤ 64))
  | 0, i, h => by
    refine Ev.succ (G := fun _ => some (decide ((l.length : Int) ≤ 64))) (fun k => ?_) ?_
    · simp only [frame_ids.l0]
      rw [if_neg (by omega)]
    · rw [show i = l.length by omega, fromB_end, Bool.true_and]
      exact Ev.pure _
  | m + 1, i, h => by
    have ih := ids_loop l hl m (i + 1) (by omega)
    by_cases hs : (at_ l i).size = 32
    · by_cases h0 : 0 < i
      · by_cases hb : Op.bytesLess (at_ l (i - 1)).toList (at_ l i).toList = true
        · rw [fromB_yes _ _ _ (by omega) ⟨hs, fun _ => hb⟩]
          refine Ev.succ (fun k => ?_) ih
          have e1 : wrap64 ((i : Int) - 1) = ((i - 1 : Nat) : Int) := by rw [w64 (by omega) (by omega)]; omega
          have e2 : wrap64 ((i : Int) + 1) = ((i + 1 : Nat) : Int) := by rw [w64 (by omega) (by omega)]; omega
          simp only [frame_ids.l0, e1, e2]
          unfold at_ at hs hb
          rw [if_pos (by omega), if_pos (by omega), if_pos (by omega), if_pos (by omega), if_pos (by omega), if_pos (by omega), if_pos (by omega), if_pos hb]
        · rw [fromB_no _ _ _ (by omega) (fun z => hb (z.2 h0)), Bool.false_and]
          refine Ev.succ (G := fun _ => some false) (fun k => ?_) (Ev.pure _)
          have e1 : wrap64 ((i : Int) - 1) = ((i - 1 : Nat) : Int) := by rw [w64 (by omega) (by omega)]; omega
          simp only [frame_ids.l0, e1]
          unfold at_ at hs hb
          rw [if_pos (by omega), if_pos (by omega), if_pos (by omega), if_pos (by omega), if_pos (by omega), if_pos (by omega), if_pos (by omega), if_neg hb]
      · rw [fromB_yes _ _ _ (by omega) ⟨hs, fun z => absurd z h0⟩]
        refine Ev.succ (fun k => ?_) ih
        have e2 : wrap64 ((i : Int) + 1) = ((i + 1 : Nat) : Int) := by rw [w64 (by omega) (by omega)]; omega
        simp only [frame_ids.l0, e2]
        unfold at_ at hs
        rw [if_pos (by omega), if_pos (by omega), if_pos (by omega), if_pos (by omega), if_neg (by omega)]
    · rw [fromB_no _ _ _ (by omega) (fun z => hs z.1), Bool.false_and]
      refine Ev.succ (G := fun _ => some false) (fun k => ?_) (Ev.pure _)
      simp only [frame_ids.l0]
      unfold at_ at hs
      rw [if_pos (by omega), if_pos (by omega), if_pos (by omega), if_neg (by omega)]
/-- Right ids, and so many. -/
noncomputable def idsB (l : List ByteArray) : Bool := fromB (idAt l) l.length 0 && decide ((l.length : Int) ≤ 64)
theorem ids_ev (l : List ByteArray) (hl : l.length ≤ 9223372036854775807) : Ev (fun k => frame_ids.f k l) (idsB l) := ids_loop l hl l.length 0 (by omega)
theorem rids_loop (l : List ByteArray) (hl : l.length ≤ 9223372036854775807) : ∀ m i : Nat, i + m = l.length →
    Ev (fun k => palaverref07_ids.l0 k l (i : Int)) (fromB (idAt l) l.length i)
  | 0, i, h => by
    refine Ev.succ (G := fun _ => some true) (fun k => ?_) ?_
    · simp only [palaverref07_ids.l0]
      rw [if_neg (by omega)]
    · rw [show i = l.length by omega, fromB_end]
      exact Ev.pure _
  | m + 1, i, h => by
    have ih := rids_loop l hl m (i + 1) (by omega)
    by_cases hs : (at_ l i).size = 32
    · by_cases h0 : 0 < i
      · by_cases hb : Op.bytesLess (at_ l (i - 1)).toList (at_ l i).toList = true
        · rw [fromB_yes _ _ _ (by omega) ⟨hs, fun _ => hb⟩]
          refine Ev.succ (fun k => ?_) ih
          have e1 : wrap64 ((i : Int) - 1) = ((i - 1 : Nat) : Int) := by rw [w64 (by omega) (by omega)]; omega
          have e2 : wrap64 ((i : Int) + 1) = ((i + 1 : Nat) : Int) := by rw [w64 (by omega) (by omega)]; omega
          simp only [palaverref07_ids.l0, e1, e2]
          unfold at_ at hs hb
          rw [if_pos (by omega), if_pos (by omega), if_pos (by omega), if_pos (by omega), if_pos (by omega), if_pos (by omega), if_pos hb]
        · rw [fromB_no _ _ _ (by omega) (fun z => hb (z.2 h0))]
          refine Ev.succ (G := fun _ => some false) (fun k => ?_) (Ev.pure _)
          have e1 : wrap64 ((i : Int) - 1) = ((i - 1 : Nat) : Int) := by rw [w64 (by omega) (by omega)]; omega
          simp only [palaverref07_ids.l0, e1]
          unfold at_ at hs hb
          rw [if_pos (by omega), if_pos (by omega), if_pos (by omega), if_pos (by omega), if_pos (by omega), if_pos (by omega), if_neg hb]
      · rw [fromB_yes _ _ _ (by omega) ⟨hs, fun z => absurd z h0⟩]
        refine Ev.succ (fun k => ?_) ih
        have e2 : wrap64 ((i : Int) + 1) = ((i + 1 : Nat) : Int) := by rw [w64 (by omega) (by omega)]; omega
        simp only [palaverref07_ids.l0, e2]
        unfold at_ at hs
        rw [if_pos (by omega), if_pos (by omega), if_pos (by omega), if_neg (by omega)]
    · rw [fromB_no _ _ _ (by omega) (fun z => hs z.1)]
      refine Ev.succ (G := fun _ => some false) (fun k => ?_) (Ev.pure _)
      simp only [palaverref07_ids.l0]
      unfold at_ at hs
      rw [if_pos (by omega), if_pos (by omega), if_neg (by omega)]
theorem rids_ev (l : List ByteArray) (hl : l.length ≤ 9223372036854775807) : Ev (fun k => palaverref07_ids.f k l) (idsB l) := by
  unfold idsB palaverref07_ids.f
  by_cases h : (l.length : Int) > 64
  · simp only [if_pos h]
    rw [show decide ((l.length : Int) ≤ 64) = false from decide_eq_false (by omega), Bool.and_false]
    exact Ev.pure _
  · simp only [if_neg h]
    rw [show decide ((l.length : Int) ≤ 64) = true from decide_eq_true (by omega), Bool.and_true]
    exact rids_loop l hl l.length 0 (by omega)
theorem texts_loop (l : List ByteArray) (n : Int) (hl : l.length ≤ 9223372036854775807) : ∀ m i : Nat, i + m = l.length →
    Ev (fun k => frame_texts.l0 k l n l (l.length : Int) (i : Int)) (fromB (txAt l) l.length i && (decide ((l.length : Int) ≥ 1) && decide ((l.length : Int) ≤ n)))
  | 0, i, h => by
    refine Ev.succ (G := fun _ => some (decide ((l.length : Int) ≥ 1) && decide ((l.length : Int) ≤ n))) (fun k => ?_) ?_
    · simp only [frame_texts.l0]
      rw [if_neg (by omega)]
      by_cases c : (l.length : Int) ≥ 1
      · rw [if_pos c, decide_eq_true c, Bool.true_and]
      · rw [if_neg c, decide_eq_false c, Bool.false_and]
    · rw [show i = l.length by omega, fromB_end, Bool.true_and]
      exact Ev.pure _
  | m + 1, i, h => by
    have ih := texts_loop l n hl m (i + 1) (by omega)
    by_cases hs : (at_ l i).size = 0
    · rw [fromB_no _ _ _ (by omega) (fun z => by have := z.1; omega), Bool.false_and]
      refine Ev.succ (G := fun _ => some false) (fun k => ?_) (Ev.pure _)
      simp only [frame_texts.l0]
      unfold at_ at hs
      rw [if_pos (by omega), if_pos (by omega), if_pos (by omega), if_pos ((size_zero _).2 hs)]
    · by_cases hb : (at_ l i).size ≤ 65535
      · rw [fromB_yes _ _ _ (by omega) ⟨by omega, hb⟩]
        refine Ev.succ (fun k => ?_) ih
        have e2 : wrap64 ((i : Int) + 1) = ((i + 1 : Nat) : Int) := by rw [w64 (by omega) (by omega)]; omega
        simp only [frame_texts.l0, e2]
        unfold at_ at hs hb
        rw [if_pos (by omega), if_pos (by omega), if_pos (by omega), if_neg (fun z => hs ((size_zero _).1 z)), if_neg (by omega)]
      · rw [fromB_no _ _ _ (by omega) (fun z => hb z.2), Bool.false_and]
        refine Ev.succ (G := fun _ => some false) (fun k => ?_) (Ev.pure _)
        simp only [frame_texts.l0]
        unfold at_ at hs hb
        rw [if_pos (by omega), if_pos (by omega), if_pos (by omega), if_neg (fun z => hs ((size_zero _).1 z)), if_pos (by omega)]
/-- From one to so many right texts. -/
noncomputable def textsB (l : List ByteArray) (n : Int) : Bool := fromB (txAt l) l.length 0 && (decide ((l.length : Int) ≥ 1) && decide ((l.length : Int) ≤ n))
theorem texts_ev (l : List ByteArray) (n : Int) (hl : l.length ≤ 9223372036854775807) : Ev (fun k => frame_texts.f k l n) (textsB l n) := texts_loop l n hl l.length 0 (by omega)
/-- Is a frame right? -/
noncomputable def rightB (kind dt : Int) (ids : List ByteArray) (bits : ByteArray) (texts : List ByteArray) : Bool :=
  if kind = 1 then idsB ids && decide (bits.toList = []) && decide (dt = 0) && decide (texts = [])
  else if kind = 2 then idsB ids && !decide (bits.toList = []) && decide ((bits.size : Int) ≤ 512) && decide (dt = 0) && decide (texts = [])
  else if kind = 3 then idsB ids && !decide (ids = []) && decide (bits.toList = []) && decide (dt = 0) && decide (texts = [])
  else if kind = 4 then textsB texts 16 && decide (bits.toList = []) && decide (dt = 0) && decide (ids = [])
  else if kind = 5 then decide (0 ≤ dt) && decide (dt ≤ 255) && textsB texts 1 && (bt (at_ texts 0) 0 != 5) && decide (bits.toList = []) && decide (ids = [])
  else false
theorem len_pos (l : List ByteArray) : ((l.length : Int) > 0) ↔ ¬ l = [] := by cases l <;> simp
theorem right_ev (kind dt : Int) (ids : List ByteArray) (bits : ByteArray) (texts : List ByteArray) (hi : ids.length ≤ 9223372036854775807) (ht : texts.length ≤ 9223372036854775807) :
    Ev (fun k => frame_Right.f k kind dt ids bits texts) (rightB kind dt ids bits texts) := by
  obtain ⟨K1, h1⟩ := ids_ev ids hi
  obtain ⟨K2, h2⟩ := texts_ev texts 16 ht
  obtain ⟨K3, h3⟩ := texts_ev texts 1 ht
  refine ⟨max (max K1 K2) K3 + 6, fun k hk => ?_⟩
  obtain ⟨j, rfl⟩ : ∃ j, k = j + 6 := ⟨k - 6, by omega⟩
  have g1 : ∀ i, frame_ids.f (j + i) ids = some (idsB ids) := fun i => h1 _ (by omega)
  have g2 : ∀ i, frame_texts.f (j + i) texts 16 = some (textsB texts 16) := fun i => h2 _ (by omega)
  have g3 : ∀ i, frame_texts.f (j + i) texts 1 = some (textsB texts 1) := fun i => h3 _ (by omega)
  unfold frame_Right.f rightB
  simp only [frame_Right.j0, frame_Right.j1, frame_Right.j2, frame_Right.j3, frame_Right.j4, g1, g2, g3, len_pos, Option.bind_some]
  by_cases k1 : kind = 1
  · subst k1
    by_cases b : bits.toList = [] <;> by_cases t : texts = [] <;> by_cases o : dt = 0 <;> simp [b, t, o]
  by_cases k2 : kind = 2
  · subst k2
    by_cases b : bits.toList = [] <;> by_cases t : texts = [] <;> by_cases o : dt = 0 <;> cases idsB ids <;> simp [b, t, o]
  by_cases k3 : kind = 3
  · subst k3
    by_cases b : bits.toList = [] <;> by_cases t : texts = [] <;> by_cases o : dt = 0 <;> cases idsB ids <;> simp [b, t, o]
  by_cases k4 : kind = 4
  · subst k4
    by_cases b : bits.toList = [] <;> by_cases t : ids = [] <;> by_cases o : dt = 0 <;> simp [b, t, o]
  by_cases k5 : kind = 5
  · subst k5
    by_cases b : bits.toList = []
    · by_cases t : ids = []
      · by_cases o : 0 ≤ dt
        · by_cases q : dt ≤ 255
          · cases hx : textsB texts 1
            · simp [b, t, o, q]
            · have e1 : 0 < texts.length := by
                unfold textsB at hx
                simp only [Bool.and_eq_true, decide_eq_true_eq] at hx
                omega
              have e2 : 0 < (rdOf ByteArray.empty texts 0).size := by
                unfold textsB at hx
                simp only [Bool.and_eq_true] at hx
                have h := hx.1
                unfold fromB at h
                simp only [decide_eq_true_eq] at h
                have := (h 0 (Nat.le_refl _) e1).1
                unfold at_ at this
                simp at this
                omega
              have e3 : ¬ texts = [] := fun z => by rw [z] at e1; simp at e1
              simp [b, t, o, q, at_, e1, e2, e3]
          · simp [b, t, o, q]
        · simp [b, t, o]
      · simp [b, t]
    · simp [b]
  · have z1 : ¬ (kind ≥ 1 ∧ kind ≤ 3) := by omega
    by_cases g : kind ≥ 1 <;> by_cases l : kind ≤ 3 <;> simp [k1, k2, k3, k4, k5, g, l]
    all_goals first | omega | skip
theorem rtexts_loop (dt : Int) (ids : List ByteArray) (bits : ByteArray) (l : List ByteArray) (hl : l.length ≤ 9223372036854775807) : ∀ m i : Nat, i + m = l.length →
    Ev (fun k => palaverref07_Right.l0 k (i : Int) 4 dt ids bits l) (fromB (txAt l) l.length i && decide (bits.toList = []) && decide (dt = 0) && decide (ids = []))
  | 0, i, h => by
    refine Ev.succ (G := fun _ => some (decide (bits.toList = []) && decide (dt = 0) && decide (ids = []))) (fun k => ?_) ?_
    · simp only [palaverref07_Right.l0]
      rw [if_neg (by omega)]
      by_cases b : bits.toList = [] <;> by_cases o : dt = 0 <;> by_cases t : ids = [] <;> simp [b, o, t]
    · rw [show i = l.length by omega, fromB_end, Bool.true_and]
      exact Ev.pure _
  | m + 1, i, h => by
    have ih := rtexts_loop dt ids bits l hl m (i + 1) (by omega)
    by_cases hs : (at_ l i).size = 0
    · rw [fromB_no _ _ _ (by omega) (fun z => by have := z.1; omega), Bool.false_and, Bool.false_and, Bool.false_and]
      refine Ev.succ (G := fun _ => some false) (fun k => ?_) (Ev.pure _)
      simp only [palaverref07_Right.l0]
      unfold at_ at hs
      rw [if_pos (by omega), if_pos (by omega), if_pos (by omega)]
    · by_cases hb : (at_ l i).size ≤ 65535
      · rw [fromB_yes _ _ _ (by omega) ⟨by omega, hb⟩]
        refine Ev.succ (fun k => ?_) ih
        have e2 : wrap64 ((i : Int) + 1) = ((i + 1 : Nat) : Int) := by rw [w64 (by omega) (by omega)]; omega
        simp only [palaverref07_Right.l0, e2]
        unfold at_ at hs hb
        rw [if_pos (by omega), if_pos (by omega), if_neg (by omega), if_neg (by omega)]
      · rw [fromB_no _ _ _ (by omega) (fun z => hb z.2), Bool.false_and, Bool.false_and, Bool.false_and]
        refine Ev.succ (G := fun _ => some false) (fun k => ?_) (Ev.pure _)
        simp only [palaverref07_Right.l0]
        unfold at_ at hs hb
        rw [if_pos (by omega), if_pos (by omega), if_neg (by omega), if_pos (by omega)]
theorem textsB_one (l : List ByteArray) : textsB l 1 = (decide (l.length = 1) && decide (1 ≤ (at_ l 0).size) && decide ((at_ l 0).size ≤ 65535)) := by
  unfold textsB
  by_cases h : l.length = 1
  · have e : fromB (txAt l) l.length 0 = (decide (1 ≤ (at_ l 0).size) && decide ((at_ l 0).size ≤ 65535)) := by
      by_cases h2 : txAt l 0
      · rw [fromB_yes _ _ _ (by omega) h2, show 0 + 1 = l.length by omega, fromB_end]
        have h3 := h2
        unfold txAt at h3
        simp [h3.1, h3.2]
      · rw [fromB_no _ _ _ (by omega) h2]
        unfold txAt at h2
        by_cases c : 1 ≤ (at_ l 0).size
        · have : ¬ (at_ l 0).size ≤ 65535 := fun z => h2 ⟨c, z⟩
          simp [this]
        · simp [c]
    rw [e]
    simp [h]
  · have : ((decide ((l.length : Int) ≥ 1) && decide ((l.length : Int) ≤ 1)) : Bool) = false := by
      by_cases c : (l.length : Int) ≥ 1
      · rw [decide_eq_false (show ¬ (l.length : Int) ≤ 1 by omega), Bool.and_false]
      · rw [decide_eq_false c, Bool.false_and]
    rw [this]
    simp [h]
theorem rright_ev (kind dt : Int) (ids : List ByteArray) (bits : ByteArray) (texts : List ByteArray) (hi : ids.length ≤ 9223372036854775807) (ht : texts.length ≤ 9223372036854775807) :
    Ev (fun k => palaverref07_Right.f k kind dt ids bits texts) (rightB kind dt ids bits texts) := by
  obtain ⟨K1, h1⟩ := rids_ev ids hi
  obtain ⟨K2, h2⟩ := rtexts_loop dt ids bits texts ht texts.length 0 (by omega)
  refine ⟨max K1 K2 + 6, fun k hk => ?_⟩
  obtain ⟨j, rfl⟩ : ∃ j, k = j + 6 := ⟨k - 6, by omega⟩
  have g1 : ∀ i, palaverref07_ids.f (j + i) ids = some (idsB ids) := fun i => h1 _ (by omega)
  have g2 : ∀ i, palaverref07_Right.l0 (j + i) 0 4 dt ids bits texts = some (fromB (txAt texts) texts.length 0 && decide (bits.toList = []) && decide (dt = 0) && decide (ids = [])) := fun i => h2 _ (by omega)
  unfold palaverref07_Right.f rightB
  by_cases k1 : kind = 1
  · subst k1
    simp only [g1, Option.bind_some]
    by_cases b : bits.toList = [] <;> by_cases t : texts = [] <;> by_cases o : dt = 0 <;> cases idsB ids <;> simp [b, t, o]
    all_goals first | omega | skip
  by_cases k2 : kind = 2
  · subst k2
    simp only [g1, Option.bind_some]
    have e : ((bits.size : Int) ≥ 1) ↔ ¬ bits.toList = [] := by rw [size_zero]; omega
    simp only [e]
    by_cases b : bits.toList = [] <;> by_cases t : texts = [] <;> by_cases o : dt = 0 <;> by_cases q : (bits.size : Int) ≤ 512 <;> cases idsB ids <;> simp [b, t, o, q]
    all_goals first | omega | skip
  by_cases k3 : kind = 3
  · subst k3
    simp only [g1, Option.bind_some]
    have e : ((ids.length : Int) ≥ 1) ↔ ¬ ids = [] := by rw [← len_pos]; omega
    simp only [e]
    by_cases b : bits.toList = [] <;> by_cases t : texts = [] <;> by_cases o : dt = 0 <;> by_cases q : ids = [] <;> cases hx : idsB ids <;> simp [b, t, o, q, hx]
    all_goals first | omega | skip
  by_cases k4 : kind = 4
  · subst k4
    simp only [palaverref07_Right.j0]
    unfold textsB
    by_cases c : (texts.length : Int) < 1
    · simp [c]
      intro z
      omega
    · by_cases c2 : (texts.length : Int) > 16
      · have e : ¬ (texts.length : Int) ≤ 16 := by omega
        simp [c, c2, e]
      · have e : (texts.length : Int) ≤ 16 := by omega
        have e2 : (texts.length : Int) ≥ 1 := by omega
        have g := g2 5
        simp [c, c2, e, e2, g]
  by_cases k5 : kind = 5
  · subst k5
    rw [textsB_one]
    unfold at_
    have ti : ((texts.length : Int) = 1) ↔ texts.length = 1 := by omega
    generalize rdOf ByteArray.empty texts 0 = u
    generalize u.size = n
    by_cases x : (n : Int) ≥ 1
    · have x2 : 1 ≤ n := by omega
      have x3 : (0 : Int) < (n : Int) := by omega
      have x4 : 0 < n := by omega
      have x5 : (1 : Int) ≤ (n : Int) := by omega
      by_cases y : (n : Int) ≤ 65535
      · have y2 : n ≤ 65535 := by omega
        by_cases o : 0 ≤ dt <;> by_cases q : dt ≤ 255 <;> by_cases t : texts.length = 1 <;> by_cases b : bits.toList = [] <;> by_cases z : ids = [] <;> by_cases w : bt u 0 = 5 <;> simp [o, q, t, ti, x, x2, x3, x4, x5, y, y2, b, z, w]
      · have y2 : ¬ n ≤ 65535 := by omega
        by_cases o : 0 ≤ dt <;> by_cases q : dt ≤ 255 <;> by_cases t : texts.length = 1 <;> simp [o, q, t, ti, x, x2, x3, x4, x5, y, y2]
    · have x2 : ¬ 1 ≤ n := by omega
      have x5 : ¬ (1 : Int) ≤ (n : Int) := by omega
      by_cases o : 0 ≤ dt <;> by_cases q : dt ≤ 255 <;> by_cases t : texts.length = 1 <;> simp [o, q, t, ti, x, x2, x5]
  · simp [k1, k2, k3, k4, k5]
end Go.Proofs.Ytbiempnleljciaa.Frm
