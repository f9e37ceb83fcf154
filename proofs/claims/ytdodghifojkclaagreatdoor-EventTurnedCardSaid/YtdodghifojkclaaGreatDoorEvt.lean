/-
  Texts of this proof, one behind the other: Evt1 EvtR EvtG Evt5.
  Conditions: none.
-/
import Derived.Test.YtdodghifojkclaaGreatDoorOctA
import Derived.Test.YtdodghifojkclaaGreatDoorSha5
import Derived.Test.YtdodghifojkclaaGreatDoorPPx1
import Derived.Test.YtdodghifojkclaaGreatDoorPPx2
/-
  Events: which are right, by the program's word.
  Conditions: none.
-/
namespace Go.Proofs.YtdodghifojkclaaGreatDoor.Oct.Evt
open Go.RowKit Go.Proofs.YtdodghifojkclaaGreatDoor.PP Go.Proofs.YtdodghifojkclaaGreatDoorW.PrintWords Go.Proofs.YtdodghifojkclaaGreatDoorW.PrintLast Go.Proofs.YtdodghifojkclaaGreatDoorW.PrintMore
open Go.Proofs.YtdodghifojkclaaGreatDoor.Sha (ifs ifn)
set_option linter.unusedSimpArgs false
set_option linter.unusedVariables false

/-- The element at a place. -/
def at_ (l : List ByteArray) (i : Nat) : ByteArray := rdOf ByteArray.empty l (i : Int)
theorem at_cons_zero (x : ByteArray) (l : List ByteArray) : at_ (x :: l) 0 = x := rfl
theorem at_cons_succ (x : ByteArray) (l : List ByteArray) (i : Nat) : at_ (x :: l) (i + 1) = at_ l i := by
  unfold at_ rdOf
  simp
def idAt (l : List ByteArray) (i : Nat) : Prop := (at_ l i).size = 32 ∧ (0 < i → Op.bytesLess (at_ l (i - 1)).toList (at_ l i).toList = true)
open Classical in
/-- What holds from a place on. -/
noncomputable def fromB (p : Nat → Prop) (n i : Nat) : Bool := decide (∀ j, i ≤ j → j < n → p j)
theorem fromB_end (p : Nat → Prop) (n : Nat) : fromB p n n = true := by
  unfold fromB
  simp only [decide_eq_true_eq]
  exact fun j h1 h2 => absurd h2 (by omega)
theorem fromB_yes (p : Nat → Prop) (n i : Nat) (hi : i < n) (h : p i) : fromB p n i = fromB p n (i + 1) := by
  unfold fromB
  refine decide_eq_decide.2 ⟨fun z j h1 h2 => z j (by omega) h2, fun z j h1 h2 => ?_⟩
  by_cases e : j = i
  · rw [e]; exact h
  · exact z j (by omega) h2
theorem fromB_no (p : Nat → Prop) (n i : Nat) (hi : i < n) (h : ¬ p i) : fromB p n i = false := by
  unfold fromB
  simp only [decide_eq_false_iff_not]
  exact fun z => h (z i (Nat.le_refl _) hi)
/-- What is asked of an event beside its parents' order. -/
def tailB (kind : Int) (a : ByteArray) (ps : List ByteArray) (b s : ByteArray) : Bool :=
  decide (1 ≤ kind) && decide (kind ≤ 5) && (decide (kind = 1) == decide (ps.length = 0)) && (!(decide (kind = 4) || decide (kind = 5)) || decide (b.size = 32)) && decide (a.size = 32) && decide (ps.length ≤ 8) && decide (b.size ≤ 200) && decide (s.size ≤ 65535)
/-- Is an event right? -/
noncomputable def rightB (kind : Int) (a : ByteArray) (ps : List ByteArray) (b s : ByteArray) : Bool := fromB (idAt ps) ps.length 0 && tailB kind a ps b s
theorem hash_eq (a : ByteArray) : J1.f a = some (decide (a.size = 32)) := by
  unfold J1.f
  congr 1
  by_cases h : a.size = 32
  · rw [decide_eq_true h, h]; rfl
  · rw [decide_eq_false h]
    exact beq_eq_false_iff_ne.mpr (by omega)
theorem j2_ev (x : Bool) (kind : Int) (a : ByteArray) (ps : List ByteArray) (b s : ByteArray) : Sha.Ev (fun k => Jp.j2 k x kind a ps b s) (x && !decide (ps.length = 0) && decide (a.size = 32) && decide (ps.length ≤ 8) && decide (b.size ≤ 200) && decide (s.size ≤ 65535)) := by
  refine Sha.Ev.succ (G := fun _ => some (x && !decide (ps.length = 0) && decide (a.size = 32) && decide (ps.length ≤ 8) && decide (b.size ≤ 200) && decide (s.size ≤ 65535))) (fun k => ?_) (Sha.Ev.pure _)
  simp only [Jp.j2, hash_eq, Option.bind_some]
  have e0 : ((ps.length : Int) = 0) ↔ ps.length = 0 := by omega
  have e1 : ((ps.length : Int) ≤ 8) ↔ ps.length ≤ 8 := by omega
  have e2 : ((b.size : Int) ≤ 200) ↔ b.size ≤ 200 := by omega
  have e3 : ((s.size : Int) ≤ 65535) ↔ s.size ≤ 65535 := by omega
  simp only [e0, e1, e2, e3, decide_eq_true_eq]
  cases x <;> by_cases h0 : ps.length = 0 <;> by_cases h1 : a.size = 32 <;> by_cases h2 : ps.length ≤ 8 <;> by_cases h3 : b.size ≤ 200 <;> simp [h0, h1, h2, h3]
theorem j1_ev (kind : Int) (x : Bool) (hx : x = (decide (kind = 4) || decide (kind = 5))) (a : ByteArray) (ps : List ByteArray) (b s : ByteArray) (h1 : kind ≠ 1) : Sha.Ev (fun k => Jp.j1 k kind x kind a ps b s) (tailB kind a ps b s) := by
  cases x
  · have hk : kind ≠ 4 ∧ kind ≠ 5 := by
      constructor <;> (intro z; rw [z] at hx; simp at hx)
    have h2 : tailB kind a ps b s = ((decide (kind = 2) || decide (kind = 3)) && !decide (ps.length = 0) && decide (a.size = 32) && decide (ps.length ≤ 8) && decide (b.size ≤ 200) && decide (s.size ≤ 65535)) := by
      unfold tailB
      by_cases k2 : kind = 2
      · subst k2
        by_cases h0 : ps.length = 0 <;> simp [h0]
      · by_cases k3 : kind = 3
        · subst k3
          by_cases h0 : ps.length = 0 <;> simp [h0]
        · have : ¬ (1 ≤ kind ∧ kind ≤ 5) := by omega
          by_cases g : 1 ≤ kind
          · have g2 : ¬ kind ≤ 5 := fun z => this ⟨g, z⟩
            simp [k2, k3, g2]
          · simp [k2, k3, g]
    rw [h2]
    by_cases k2 : kind = 2
    · refine Sha.Ev.succ (G := fun k => Jp.j2 k (kind == 2) kind a ps b s) (fun k => ?_) ?_
      · simp only [Jp.j1, if_pos k2]
        rfl
      · have := j2_ev (kind == 2) kind a ps b s
        rw [show (kind == 2) = (decide (kind = 2) || decide (kind = 3)) by rw [k2]; rfl] at this ⊢
        exact this
    · refine Sha.Ev.succ (G := fun k => Jp.j2 k (kind == 3) kind a ps b s) (fun k => ?_) ?_
      · simp only [Jp.j1, if_neg k2]
        rfl
      · have := j2_ev (kind == 3) kind a ps b s
        rw [show (kind == 3) = (decide (kind = 2) || decide (kind = 3)) by simp only [decide_eq_false k2, Bool.false_or]; rfl] at this ⊢
        exact this
  · have hk : kind = 4 ∨ kind = 5 := by
      have := hx.symm
      simp only [Bool.or_eq_true, decide_eq_true_eq] at this
      exact this
    refine Sha.Ev.succ (G := fun _ => some (tailB kind a ps b s)) (fun k => ?_) (Sha.Ev.pure _)
    simp only [Jp.j1, hash_eq, Option.bind_some]
    have e0 : ((ps.length : Int) = 0) ↔ ps.length = 0 := by omega
    have e1 : ((ps.length : Int) ≤ 8) ↔ ps.length ≤ 8 := by omega
    have e2 : ((b.size : Int) ≤ 200) ↔ b.size ≤ 200 := by omega
    have e3 : ((s.size : Int) ≤ 65535) ↔ s.size ≤ 65535 := by omega
    simp only [e0, e1, e2, e3, decide_eq_true_eq]
    unfold tailB
    rcases hk with rfl | rfl
    · by_cases g : b.size = 32 <;> by_cases h0 : ps.length = 0 <;> by_cases h1 : a.size = 32 <;> by_cases h2 : ps.length ≤ 8 <;> simp [g, h0, h1, h2]
    · by_cases g : b.size = 32 <;> by_cases h0 : ps.length = 0 <;> by_cases h1 : a.size = 32 <;> by_cases h2 : ps.length ≤ 8 <;> simp [g, h0, h1, h2]
theorem right_loop (kind : Int) (a : ByteArray) (l : List ByteArray) (b s : ByteArray) (hl : l.length ≤ 9223372036854775807) : ∀ m i : Nat, i + m = l.length →
    Sha.Ev (fun k => Jp.l0 k l (l.length : Int) (i : Int) kind a l b s) (fromB (idAt l) l.length i && tailB kind a l b s)
  | 0, i, h => by
    rw [show i = l.length by omega, fromB_end, Bool.true_and]
    by_cases k1 : kind = 1
    · refine Sha.Ev.succ (G := fun _ => some (tailB kind a l b s)) (fun k => ?_) (Sha.Ev.pure _)
      simp only [Jp.l0]
      rw [if_neg (by omega), if_pos k1]
      simp only [hash_eq, Option.bind_some]
      have e0 : ((l.length : Int) > 0) ↔ ¬ l.length = 0 := by omega
      have e1 : ((l.length : Int) ≤ 8) ↔ l.length ≤ 8 := by omega
      have e2 : ((b.size : Int) ≤ 200) ↔ b.size ≤ 200 := by omega
      have e3 : ((s.size : Int) ≤ 65535) ↔ s.size ≤ 65535 := by omega
      simp only [e0, e1, e2, e3, decide_eq_true_eq]
      unfold tailB
      subst k1
      by_cases h0 : l.length = 0 <;> by_cases h1 : a.size = 32 <;> by_cases h2 : b.size ≤ 200 <;> simp [h0, h1, h2]
    · by_cases k4 : kind = 4
      · refine Sha.Ev.succ (G := fun k => Jp.j1 k kind (kind == 4) kind a l b s) (fun k => ?_) (j1_ev kind _ ?_ a l b s k1)
        · simp only [Jp.l0]
          rw [if_neg (by omega), if_neg k1, if_pos k4]
        · rw [k4]; rfl
      · refine Sha.Ev.succ (G := fun k => Jp.j1 k kind (kind == 5) kind a l b s) (fun k => ?_) (j1_ev kind _ ?_ a l b s k1)
        · simp only [Jp.l0]
          rw [if_neg (by omega), if_neg k1, if_neg k4]
        · rw [decide_eq_false k4, Bool.false_or]; rfl
  | m + 1, i, h => by
    have ih := right_loop kind a l b s hl m (i + 1) (by omega)
    by_cases hs : (at_ l i).size = 32
    · by_cases h0 : 0 < i
      · by_cases hb : Op.bytesLess (at_ l (i - 1)).toList (at_ l i).toList = true
        · rw [fromB_yes _ _ _ (by omega) ⟨hs, fun _ => hb⟩]
          refine Sha.Ev.succ (fun k => ?_) ih
          have e1 : wrap64 ((i : Int) - 1) = ((i - 1 : Nat) : Int) := by rw [w64 (by omega) (by omega)]; omega
          have e2 : wrap64 ((i : Int) + 1) = ((i + 1 : Nat) : Int) := by rw [w64 (by omega) (by omega)]; omega
          simp only [Jp.l0, e1, e2, hash_eq, Option.bind_some]
          unfold at_ at hs hb
          rw [if_pos (by omega), if_pos (by omega), if_pos (by omega), if_pos (decide_eq_true hs), if_pos (by omega), if_pos (by omega), if_pos (by omega), if_pos hb]
        · rw [fromB_no _ _ _ (by omega) (fun z => hb (z.2 h0)), Bool.false_and]
          refine Sha.Ev.succ (G := fun _ => some false) (fun k => ?_) (Sha.Ev.pure _)
          have e1 : wrap64 ((i : Int) - 1) = ((i - 1 : Nat) : Int) := by rw [w64 (by omega) (by omega)]; omega
          simp only [Jp.l0, e1, hash_eq, Option.bind_some]
          unfold at_ at hs hb
          rw [if_pos (by omega), if_pos (by omega), if_pos (by omega), if_pos (decide_eq_true hs), if_pos (by omega), if_pos (by omega), if_pos (by omega), if_neg hb]
      · rw [fromB_yes _ _ _ (by omega) ⟨hs, fun z => absurd z h0⟩]
        refine Sha.Ev.succ (fun k => ?_) ih
        have e2 : wrap64 ((i : Int) + 1) = ((i + 1 : Nat) : Int) := by rw [w64 (by omega) (by omega)]; omega
        simp only [Jp.l0, e2, hash_eq, Option.bind_some]
        unfold at_ at hs
        rw [if_pos (by omega), if_pos (by omega), if_pos (by omega), if_pos (decide_eq_true hs), if_neg (by omega)]
    · rw [fromB_no _ _ _ (by omega) (fun z => hs z.1), Bool.false_and]
      refine Sha.Ev.succ (G := fun _ => some false) (fun k => ?_) (Sha.Ev.pure _)
      simp only [Jp.l0, hash_eq, Option.bind_some]
      unfold at_ at hs
      rw [if_pos (by omega), if_pos (by omega), if_pos (by omega), if_neg (by rw [decide_eq_false hs]; decide)]
theorem right_ev (kind : Int) (a : ByteArray) (ps : List ByteArray) (b s : ByteArray) (hl : ps.length ≤ 9223372036854775807) : Sha.Ev (fun k => Jp.f k kind a ps b s) (rightB kind a ps b s) := right_loop kind a ps b s hl ps.length 0 (by omega)
/-- What a right event bears. -/
theorem right_has {kind : Int} {a : ByteArray} {ps : List ByteArray} {b s : ByteArray} (h : rightB kind a ps b s = true) :
    1 ≤ kind ∧ kind ≤ 5 ∧ a.size = 32 ∧ ps.length ≤ 8 ∧ b.size ≤ 200 ∧ s.size ≤ 65535 ∧ ∀ i, i < ps.length → (at_ ps i).size = 32 := by
  unfold rightB tailB fromB at h
  simp only [Bool.and_eq_true, decide_eq_true_eq] at h
  obtain ⟨h0, ⟨⟨⟨⟨⟨⟨⟨h1, h2⟩, _⟩, _⟩, h3⟩, h4⟩, h5⟩, h6⟩⟩ := h
  exact ⟨h1, h2, h3, h4, h5, h6, fun i hi => (h0 i (Nat.zero_le _) hi).1⟩
theorem right_bare {kind : Int} {a : ByteArray} {ps : List ByteArray} {b s : ByteArray} (h : rightB kind a ps b s = true) : rightB kind a ps b ⟨#[]⟩ = true := by
  unfold rightB tailB at h ⊢
  simp only [Bool.and_eq_true] at h ⊢
  exact ⟨h.1, ⟨h.2.1, by decide⟩⟩
theorem app_assoc (a b c : ByteArray) : a ++ b ++ c = a ++ (b ++ c) := by
  apply ba_ext
  simp only [data_app, List.append_assoc]
/-- One byte. -/
def one (a : Int) : ByteArray := strOfNums [a % 256]
theorem one_size (a : Int) : (one a).size = 1 := by unfold one; rw [strOfNums_size]; rfl
/-- Ids, one behind the other. -/
def catI : List ByteArray → ByteArray
  | [] => ⟨#[]⟩
  | t :: l => t ++ catI l
/-- What of an event is signed. -/
def cont (kind : Int) (a : ByteArray) (ps : List ByteArray) (b : ByteArray) : ByteArray := (((one kind ++ lay a) ++ one ps.length) ++ catI ps) ++ lay b
/-- An event's bytes. -/
def enc (kind : Int) (a : ByteArray) (ps : List ByteArray) (b s : ByteArray) : ByteArray := cont kind a ps b ++ lay s
theorem text_eq (k : Nat) (s : ByteArray) (h : s.size ≤ 65535) : Um.f (k + 5) s = some (lay s, true) := by
  unfold Um.f Uj.f
  rw [if_neg (by omega), short_eq, if_neg (by omega)]
  simp only [Option.bind_some]
  rw [if_pos (by rw [strOfNums_size]; simp; omega)]
  rfl
theorem text_ev (s : ByteArray) (h : s.size ≤ 65535) : Sha.Ev (fun k => Um.f k s) (lay s, true) := by
  refine ⟨5, fun k hk => ?_⟩
  obtain ⟨j, rfl⟩ : ∃ j, k = j + 5 := ⟨k - 5, by omega⟩
  exact text_eq j s h
theorem catI_size : ∀ (l : List ByteArray), (∀ i, i < l.length → (at_ l i).size = 32) → (catI l).size = l.length * 32
  | [], _ => rfl
  | t :: l, h => by
    have h0 := h 0 (by simp)
    have ih := catI_size l (fun i hi => by have := h (i + 1) (by simp; omega); rwa [at_cons_succ] at this)
    rw [at_cons_zero] at h0
    show (t ++ catI l).size = _
    rw [app_size, List.length_cons]
    omega
theorem cat_data : ∀ (l : List ByteArray), Jo.cat l = (catI l).data.toList
  | [] => rfl
  | t :: l => by
    show t.toList ++ Jo.cat l = (t ++ catI l).data.toList
    rw [data_app, cat_data l, ByteArray.toList_eq]
theorem cont_data (kind : Int) (a : ByteArray) (ps : List ByteArray) (b : ByteArray) :
    (cont kind a ps b).data.toList = (((([Jo.u8 kind] ++ (lay a).toList) ++ [Jo.u8 ps.length]) ++ Jo.cat ps) ++ (lay b).toList) := by
  unfold cont
  simp only [data_app, cat_data, ByteArray.toList_eq]
  rfl
theorem cont_size {kind : Int} {a : ByteArray} {ps : List ByteArray} {b s : ByteArray} (h : rightB kind a ps b s = true) : (cont kind a ps b).size = 38 + ps.length * 32 + b.size := by
  obtain ⟨_, _, h3, h4, h5, _, h7⟩ := right_has h
  have := catI_size ps h7
  unfold cont
  simp only [app_size, one_size, lay_size]
  omega
theorem content_ev {kind : Int} {a : ByteArray} {ps : List ByteArray} {b s : ByteArray} (h : rightB kind a ps b s = true) (z : ByteArray) : Sha.Ev (fun k => Jo.f k kind a ps b z) (cont kind a ps b) := by
  obtain ⟨_, _, h3, h4, h5, _, h7⟩ := right_has h
  have hz := cont_size h
  unfold Jo.f
  refine Sha.Ev.bind (text_ev a (by omega)) (Sha.Ev.bind (text_ev b (by omega)) ?_)
  simp only [← cont_data, ← size_len]
  refine ifs (by omega) ?_
  exact Sha.Ev.pure _
/-- What the program's Encode answers. -/
noncomputable def encR (kind : Int) (a : ByteArray) (ps : List ByteArray) (b s : ByteArray) : ByteArray × Int :=
  if rightB kind a ps b s = true then (enc kind a ps b s, 0) else (⟨#[]⟩, 2)
theorem encode_ev (kind : Int) (a : ByteArray) (ps : List ByteArray) (b s : ByteArray) (hl : ps.length ≤ 9223372036854775807) : Sha.Ev (fun k => Ux.f k kind a ps b s) (encR kind a ps b s) := by
  unfold Ux.f encR
  refine Sha.Ev.bind (right_ev kind a ps b s hl) ?_
  cases h : rightB kind a ps b s
  · exact Sha.Ev.pure _
  · obtain ⟨_, _, h3, h4, h5, h6, h7⟩ := right_has h
    have hz := cont_size h
    refine ifs rfl (Sha.Ev.bind (text_ev s h6) (Sha.Ev.bind (content_ev h s) ?_))
    refine ifs (by rw [lay_size]; omega) ?_
    exact Sha.Ev.pure _
end Go.Proofs.YtdodghifojkclaaGreatDoor.Oct.Evt

/-
  Events: what is right, content and bytes, as the document has it.
  Conditions: none.
-/
namespace Go.Proofs.YtdodghifojkclaaGreatDoor.Oct.Evt
open Go.RowKit Go.Proofs.YtdodghifojkclaaGreatDoor.PP Go.Proofs.YtdodghifojkclaaGreatDoorW.PrintWords Go.Proofs.YtdodghifojkclaaGreatDoorW.PrintLast Go.Proofs.YtdodghifojkclaaGreatDoorW.PrintMore
open Go.Proofs.YtdodghifojkclaaGreatDoor.Sha (ifs ifn)
set_option linter.unusedSimpArgs false
set_option linter.unusedVariables false

theorem rtext_ev (s : ByteArray) (h : s.size ≤ 65535) : Sha.Ev (fun k => Ud.f k s) (lay s, true) := by
  refine ⟨8, fun k hk => ?_⟩
  obtain ⟨j, rfl⟩ : ∃ j, k = j + 8 := ⟨k - 8, by omega⟩
  show Ud.f (j + 8) s = _
  unfold Ud.f
  rw [ref_two _ _ (by omega), if_neg (by omega)]
  simp only [Option.bind_some, if_true]
  rw [if_pos (by rw [strOfNums_size]; simp; omega)]
  rfl
/-! the document's -/
theorem rright_loop (kind : Int) (a : ByteArray) (l : List ByteArray) (b s : ByteArray) (hl : l.length ≤ 9223372036854775807) : ∀ m i : Nat, i + m = l.length →
    Sha.Ev (fun k => Je.l0 k (i : Int) kind a l b s) (fromB (idAt l) l.length i)
  | 0, i, h => by
    refine Sha.Ev.succ (G := fun _ => some true) (fun k => ?_) ?_
    · simp only [Je.l0]
      rw [if_neg (by omega)]
    · rw [show i = l.length by omega, fromB_end]
      exact Sha.Ev.pure _
  | m + 1, i, h => by
    have ih := rright_loop kind a l b s hl m (i + 1) (by omega)
    by_cases hs : (at_ l i).size = 32
    · by_cases h0 : 0 < i
      · by_cases hb : Op.bytesLess (at_ l (i - 1)).toList (at_ l i).toList = true
        · rw [fromB_yes _ _ _ (by omega) ⟨hs, fun _ => hb⟩]
          refine Sha.Ev.succ (fun k => ?_) ih
          have e1 : wrap64 ((i : Int) - 1) = ((i - 1 : Nat) : Int) := by rw [w64 (by omega) (by omega)]; omega
          have e2 : wrap64 ((i : Int) + 1) = ((i + 1 : Nat) : Int) := by rw [w64 (by omega) (by omega)]; omega
          simp only [Je.l0, e1, e2]
          unfold at_ at hs hb
          rw [if_pos (by omega), if_pos (by omega), if_pos (by omega), if_pos (by omega), if_pos (by omega), if_pos (by omega), if_pos hb]
        · rw [fromB_no _ _ _ (by omega) (fun z => hb (z.2 h0))]
          refine Sha.Ev.succ (G := fun _ => some false) (fun k => ?_) (Sha.Ev.pure _)
          have e1 : wrap64 ((i : Int) - 1) = ((i - 1 : Nat) : Int) := by rw [w64 (by omega) (by omega)]; omega
          simp only [Je.l0, e1]
          unfold at_ at hs hb
          rw [if_pos (by omega), if_pos (by omega), if_pos (by omega), if_pos (by omega), if_pos (by omega), if_pos (by omega), if_neg hb]
      · rw [fromB_yes _ _ _ (by omega) ⟨hs, fun z => absurd z h0⟩]
        refine Sha.Ev.succ (fun k => ?_) ih
        have e2 : wrap64 ((i : Int) + 1) = ((i + 1 : Nat) : Int) := by rw [w64 (by omega) (by omega)]; omega
        simp only [Je.l0, e2]
        unfold at_ at hs
        rw [if_pos (by omega), if_pos (by omega), if_pos (by omega), if_neg (by omega)]
    · rw [fromB_no _ _ _ (by omega) (fun z => hs z.1)]
      refine Sha.Ev.succ (G := fun _ => some false) (fun k => ?_) (Sha.Ev.pure _)
      simp only [Je.l0]
      unfold at_ at hs
      rw [if_pos (by omega), if_pos (by omega), if_neg (by omega)]
theorem rj1_ev (x : Bool) (kind : Int) (a : ByteArray) (l : List ByteArray) (b s : ByteArray) (hl : l.length ≤ 9223372036854775807) : Sha.Ev (fun k => Je.j1 k x kind a l b s) (!x && fromB (idAt l) l.length 0) := by
  cases x
  · refine Sha.Ev.succ (fun k => ?_) (rright_loop kind a l b s hl l.length 0 (by omega))
    simp only [Je.j1]
    rfl
  · refine Sha.Ev.succ (G := fun _ => some false) (fun k => ?_) (Sha.Ev.pure _)
    simp only [Je.j1]
    rfl
theorem rj0_ev (x : Bool) (kind : Int) (a : ByteArray) (l : List ByteArray) (b s : ByteArray) (hl : l.length ≤ 9223372036854775807) : Sha.Ev (fun k => Je.j0 k x kind a l b s) (!x && ((decide (kind = 1) == decide (l.length = 0)) && (!(decide (kind = 4) || decide (kind = 5)) || decide (b.size = 32))) && fromB (idAt l) l.length 0) := by
  cases x
  · have e : ((kind == 1) != ((l.length : Int) == 0)) = !(decide (kind = 1) == decide (l.length = 0)) := by
      have e0 : ((l.length : Int) == 0) = decide (l.length = 0) := by
        by_cases h : l.length = 0
        · rw [decide_eq_true h, h]; rfl
        · rw [decide_eq_false h]; exact beq_eq_false_iff_ne.mpr (by omega)
      rw [e0]
      rfl
    have e5 : ((b.size : Int) != 32) = !decide (b.size = 32) := by
      by_cases h : b.size = 32
      · rw [decide_eq_true h, h]; rfl
      · rw [decide_eq_false h]; exact bne_iff_ne.mpr (by omega)
    cases c : (decide (kind = 1) == decide (l.length = 0))
    · rw [Bool.false_and, Bool.and_false, Bool.false_and]
      refine Sha.Ev.succ (fun k => ?_) (rj1_ev true kind a l b s hl)
      simp only [Je.j0, e, c]
      rfl
    · by_cases k4 : kind = 4 ∨ kind = 5
      · refine Sha.Ev.succ (G := fun k => Je.j1 k ((b.size : Int) != 32) kind a l b s) (fun k => ?_) ?_
        · simp only [Je.j0, e, c]
          rcases k4 with k4 | k4
          · subst k4; rfl
          · subst k4; rfl
        · have := rj1_ev ((b.size : Int) != 32) kind a l b s hl
          rw [e5] at this ⊢
          rw [show (decide (kind = 4) || decide (kind = 5)) = true by simpa using k4]
          simpa using this
      · refine Sha.Ev.succ (G := fun k => Je.j1 k false kind a l b s) (fun k => ?_) ?_
        · simp only [Je.j0, e, c]
          rw [if_neg (by decide), if_neg (by decide), if_neg (fun z => k4 (Or.inl z)), if_neg (fun z => k4 (Or.inr z))]
        · have := rj1_ev false kind a l b s hl
          rw [show (decide (kind = 4) || decide (kind = 5)) = false by simpa using k4]
          simpa using this
  · refine Sha.Ev.succ (G := fun _ => some false) (fun k => ?_) (Sha.Ev.pure _)
    simp only [Je.j0]
    rfl
theorem rright_ev (kind : Int) (a : ByteArray) (ps : List ByteArray) (b s : ByteArray) (hl : ps.length ≤ 9223372036854775807) : Sha.Ev (fun k => Je.f k kind a ps b s) (rightB kind a ps b s) := by
  have hno : Sha.Ev (fun k => Je.j0 k true kind a ps b s) false := rj0_ev true kind a ps b s hl
  unfold Je.f rightB tailB
  by_cases k1 : kind < 1
  · have : ¬ 1 ≤ kind := by omega
    simpa [k1, this] using hno
  · by_cases k5 : kind > 5
    · have : ¬ kind ≤ 5 := by omega
      simpa [k1, k5, this] using hno
    · have g1 : 1 ≤ kind := by omega
      have g2 : kind ≤ 5 := by omega
      by_cases ha : a.size = 32
      · have ha' : (a.size : Int) = 32 := by omega
        by_cases h8 : ps.length ≤ 8
        · by_cases hb : b.size ≤ 200
          · have := rj0_ev (decide ((s.size : Int) > 65535)) kind a ps b s hl
            simp only [k1, k5, ha', show ¬ (ps.length : Int) > 8 by omega, show ¬ (b.size : Int) > 200 by omega, if_true, if_false]
            rw [show (!decide ((s.size : Int) > 65535)) = decide (s.size ≤ 65535) by by_cases q : s.size ≤ 65535 <;> simp [q] <;> omega] at this
            simp only [g1, g2, ha, h8, hb, decide_true, Bool.true_and, Bool.and_true]
            rw [show (fromB (idAt ps) ps.length 0 && ((decide (kind = 1) == decide (ps.length = 0)) && (!(decide (kind = 4) || decide (kind = 5)) || decide (b.size = 32)) && decide (s.size ≤ 65535))) = (decide (s.size ≤ 65535) && ((decide (kind = 1) == decide (ps.length = 0)) && (!(decide (kind = 4) || decide (kind = 5)) || decide (b.size = 32))) && fromB (idAt ps) ps.length 0) by
              generalize fromB (idAt ps) ps.length 0 = p
              generalize decide (s.size ≤ 65535) = q
              generalize ((decide (kind = 1) == decide (ps.length = 0)) && (!(decide (kind = 4) || decide (kind = 5)) || decide (b.size = 32))) = t
              cases p <;> cases q <;> cases t <;> rfl]
            exact this
          · have e2 : (b.size : Int) > 200 := by omega
            simpa [k1, k5, ha', show ¬ (ps.length : Int) > 8 by omega, e2, hb] using hno
        · have e1 : (ps.length : Int) > 8 := by omega
          simpa [k1, k5, ha', e1, h8] using hno
      · have ha' : ¬ (a.size : Int) = 32 := by omega
        simpa [k1, k5, ha', ha] using hno
/-! the document's -/
theorem rcont_loop (x : ByteArray) (kind : Int) (a : ByteArray) (l : List ByteArray) (b s : ByteArray) (h : ∀ i, i < l.length → (at_ l i).size = 32) (hl : l.length ≤ 100) (hx : x.size ≤ 100000) : ∀ (m i : Nat) (acc : ByteArray), i + m = l.length → acc.size ≤ 100 + i * 32 →
    Sha.Ev (fun k => Jt.l0 k x acc (i : Int) kind a l b s) ((acc ++ catI (l.drop i)) ++ x)
  | 0, i, acc, hi, ha => by
    rw [List.drop_of_length_le (by omega), show acc ++ catI [] = acc from app_nil acc]
    refine Sha.Ev.succ (G := fun _ => some (acc ++ x)) (fun k => ?_) (Sha.Ev.pure _)
    simp only [Jt.l0]
    rw [if_neg (by omega), if_pos (by omega)]
  | m + 1, i, acc, hi, ha => by
    have h1 := h i (by omega)
    have ih := rcont_loop x kind a l b s h hl hx m (i + 1) (acc ++ at_ l i) (by omega) (by rw [app_size]; omega)
    have hd : l.drop i = at_ l i :: l.drop (i + 1) := by
      rw [List.drop_eq_getElem_cons (by omega)]
      congr 1
      unfold at_ rdOf
      simp [show i < l.length by omega]
    rw [hd, show acc ++ catI (at_ l i :: l.drop (i + 1)) = (acc ++ at_ l i) ++ catI (l.drop (i + 1)) from (app_assoc _ _ _).symm]
    have e2 : wrap64 ((i : Int) + 1) = ((i + 1 : Nat) : Int) := by rw [w64 (by omega) (by omega)]; omega
    refine Sha.Ev.succ (fun k => ?_) ih
    simp only [Jt.l0, e2]
    unfold at_ at h1 ⊢
    rw [if_pos (by omega), if_pos (by omega), if_pos (by omega)]
theorem rcont_ev {kind : Int} {a : ByteArray} {ps : List ByteArray} {b s : ByteArray} (h : rightB kind a ps b s = true) (z : ByteArray) : Sha.Ev (fun k => Jt.f k kind a ps b z) (cont kind a ps b) := by
  obtain ⟨_, _, h3, h4, h5, _, h7⟩ := right_has h
  have z1 : ∀ x : Int, (strOfNums [x]).size = 1 := fun x => by rw [strOfNums_size]; rfl
  unfold Jt.f
  refine Sha.Ev.bind (rtext_ev a (by omega)) (Sha.Ev.bind (rtext_ev b (by omega)) ?_)
  simp only [Option.bind_some]
  refine ifs (by rw [z1, lay_size]; omega) (ifs (by rw [app_size, z1, z1, lay_size]; omega) ?_)
  have := rcont_loop (lay b) kind a ps b z h7 (by omega) (by rw [lay_size]; omega) ps.length 0 ((one kind ++ lay a) ++ one ps.length) (by omega) (by rw [app_size, app_size, one_size, one_size, lay_size]; omega)
  exact this
end Go.Proofs.YtdodghifojkclaaGreatDoor.Oct.Evt

/-
  Events: what is great.
  Conditions: none.
-/
namespace Go.Proofs.YtdodghifojkclaaGreatDoor.Oct.Evt
open Go.RowKit Go.Proofs.YtdodghifojkclaaGreatDoor.PP Go.Proofs.YtdodghifojkclaaGreatDoorW.PrintWords Go.Proofs.YtdodghifojkclaaGreatDoorW.PrintLast Go.Proofs.YtdodghifojkclaaGreatDoorW.PrintMore
open Go.Proofs.YtdodghifojkclaaGreatDoor.Sha (ifs ifn)
set_option linter.unusedSimpArgs false
set_option linter.unusedVariables false

/-! what is great -/
theorem great_loop (kind : Int) (a : ByteArray) (l : List ByteArray) (b s : ByteArray) (hl : l.length ≤ 20) : ∀ m i : Nat, i + m = l.length → ∃ r, Sha.Ev (fun k => Ji.l0 k (i : Int) kind a l b s) r
  | 0, i, h => by
    refine ⟨false, Sha.Ev.succ (G := fun _ => some false) (fun k => ?_) (Sha.Ev.pure _)⟩
    simp only [Ji.l0]
    rw [if_neg (by omega)]
  | m + 1, i, h => by
    obtain ⟨r, ih⟩ := great_loop kind a l b s hl m (i + 1) (by omega)
    have e2 : wrap64 ((i : Int) + 1) = ((i + 1 : Nat) : Int) := by rw [w64 (by omega) (by omega)]; omega
    by_cases c : ((rdOf ByteArray.empty l (i : Int)).size : Int) > 300
    · refine ⟨true, Sha.Ev.succ (G := fun _ => some true) (fun k => ?_) (Sha.Ev.pure _)⟩
      simp only [Ji.l0, e2]
      rw [if_pos (by omega), if_pos (by omega), if_pos c]
    · refine ⟨r, Sha.Ev.succ (fun k => ?_) ih⟩
      simp only [Ji.l0, e2]
      rw [if_pos (by omega), if_pos (by omega), if_neg c]
theorem great_yes (kind : Int) (a : ByteArray) (l : List ByteArray) (b s : ByteArray) : Sha.Ev (fun k => Ji.j0 k true kind a l b s) true :=
  Sha.Ev.succ (fun k => Ji.j0.eq_2 true kind a l b s k) (ifs rfl (Sha.Ev.pure _))
theorem great_ask (kind : Int) (a : ByteArray) (l : List ByteArray) (b s : ByteArray) : ∃ r, Sha.Ev (fun k => Ji.j0 k (decide ((l.length : Int) > 20)) kind a l b s) r := by
  by_cases c : (l.length : Int) > 20
  · rw [decide_eq_true c]
    exact ⟨true, great_yes kind a l b s⟩
  · rw [decide_eq_false c]
    obtain ⟨r, h⟩ := great_loop kind a l b s (by omega) l.length 0 (by omega)
    exact ⟨r, Sha.Ev.succ (fun k => Ji.j0.eq_2 false kind a l b s k) (ifn (by decide) h)⟩
theorem great_ev (kind : Int) (a : ByteArray) (l : List ByteArray) (b s : ByteArray) : ∃ r, Sha.Ev (fun k => Ji.f k kind a l b s) r := by
  obtain ⟨r, h⟩ := great_ask kind a l b s
  have hy := great_yes kind a l b s
  unfold Ji.f
  by_cases c1 : (a.size : Int) > 300
  · exact ⟨true, ifs c1 hy⟩
  · by_cases c2 : (b.size : Int) > 500
    · exact ⟨true, ifn c1 (ifs c2 hy)⟩
    · by_cases c3 : (s.size : Int) > 3000
      · by_cases c4 : (s.size : Int) ≤ 65535
        · exact ⟨true, ifn c1 (ifn c2 (ifs c3 (ifs c4 hy)))⟩
        · exact ⟨r, ifn c1 (ifn c2 (ifs c3 (ifn c4 h)))⟩
      · exact ⟨r, ifn c1 (ifn c2 (ifn c3 h))⟩
end Go.Proofs.YtdodghifojkclaaGreatDoor.Oct.Evt

/-
  Events: names; the example.
  Conditions: none.
-/
namespace Go.Proofs.YtdodghifojkclaaGreatDoor.Sha
open Go.RowKit Go.Proofs.YtdodghifojkclaaGreatDoor.PP Go.Proofs.YtdodghifojkclaaGreatDoorW.PrintWords Go.Proofs.YtdodghifojkclaaGreatDoorW.PrintLast Go.Proofs.YtdodghifojkclaaGreatDoorW.PrintMore
set_option linter.unusedSimpArgs false
set_option linter.unusedVariables false

theorem bcat_len : ∀ (l : List ByteArray), (∀ s ∈ l, s.size ≤ 4000) → (cat l).length ≤ l.length * 4004
  | [], _ => Nat.le_refl _
  | s :: l, h => by
    have ih := bcat_len l (fun x hx => h x (List.mem_cons_of_mem _ hx))
    have h0 := h s (by simp)
    have hd : s.data.toList.length = s.size := data_length s
    show ((four s.size ++ s.data.toList) ++ cat l).length ≤ _
    rw [List.length_append, List.length_append, hd, List.length_cons]
    have : (four s.size).length = 4 := rfl
    omega
theorem binput_small (a : Int) (l : List ByteArray) (h : ∀ s ∈ l, s.size ≤ 4000) (hl : l.length ≤ 500) : Sha.Ev (fun k => J2.f k a l) ⟨([J2.u8 a] ++ cat l).toArray⟩ := by
  have := bcat_len l h
  have : l.length * 4004 ≤ 500 * 4004 := Nat.mul_le_mul_right _ hl
  exact input_ev a l (fun s hs => by have := h s hs; omega) (by omega)
theorem brinput_ev (l : List ByteArray) (h : ∀ s ∈ l, s.size ≤ 4000) (hl : l.length ≤ 500) : ∀ (d i : Nat) (x : List Int), i + d = l.length → x.length ≤ 1 + i * 4004 → Sha.Ev (fun k => Jh.l0 k l x (i : Int)) (strOfNums (x ++ catI (l.drop i)))
  | 0, i, x, hi, hx => by
    refine Ev.succ (G := fun _ => some (strOfNums x)) (fun k => ?_) ?_
    · simp only [Jh.l0]
      rw [if_neg (by omega)]
    · rw [List.drop_of_length_le (by omega)]
      show Sha.Ev _ (strOfNums (x ++ []))
      rw [List.append_nil]
      exact Ev.pure _
  | d + 1, i, x, hi, hx => by
    have hlt : i < l.length := by omega
    have hs := h (l[i]) (List.getElem_mem hlt)
    have er : rdOf ByteArray.empty l (i : Int) = l[i] := by
      unfold rdOf
      simp [List.getD, hlt]
    have e2 : wrap64 ((i : Int) + 1) = ((i + 1 : Nat) : Int) := by rw [w64 (by omega) (by omega)]; omega
    have hn := rnum_ev (l[i]).size (by omega)
    have hz : (strOfNums (fourI (l[i]).size)).size = 4 := by rw [strOfNums_size]; rfl
    have hb : bytesOf (strOfNums (fourI (l[i]).size)) = fourI (l[i]).size := bytes_nums _ (fourI_mem _ (by omega))
    have h4 : (fourI (l[i]).size).length = 4 := rfl
    have hbl := bytesOf_length (l[i])
    have ih := brinput_ev l h hl d (i + 1) ((x ++ fourI (l[i]).size) ++ bytesOf (l[i])) (by omega) (by rw [List.length_append, List.length_append, h4, hbl]; omega)
    rw [List.drop_eq_getElem_cons hlt]
    show Sha.Ev _ (strOfNums (x ++ ((fourI (l[i]).size ++ bytesOf (l[i])) ++ catI (l.drop (i + 1)))))
    rw [← List.append_assoc, ← List.append_assoc]
    refine Ev.succ (fun k => ?_) (Ev.bind hn ?_) (G := fun k => (Jc.f k ((l[i]).size : Int) 4).bind fun bt => (if x.length + bt.1.size < 140737488355328 then ((some (x ++ bytesOf bt.1 : List Int)).bind fun y => (if y.length + (l[i]).size < 140737488355328 then (Jh.l0 k l (y ++ bytesOf (l[i])) ((i + 1 : Nat) : Int)) else (none))) else (none)))
    · simp only [Jh.l0, e2, er]
      rw [if_pos (by omega), if_pos (by omega)]
    · simp only [hz, hb, Option.bind_some]
      exact ifs (by omega) (ifs (by rw [List.length_append, h4]; omega) ih)
theorem bcatI_cat : ∀ (l : List ByteArray), (∀ s ∈ l, s.size ≤ 4000) → (catI l).map (fun n => UInt8.ofNat n.toNat) = cat l
  | [], _ => rfl
  | s :: l, h => by
    have hs := h s (by simp)
    have ih := bcatI_cat l (fun x hx => h x (List.mem_cons_of_mem _ hx))
    show ((fourI s.size ++ bytesOf s) ++ catI l).map _ = (four s.size ++ s.data.toList) ++ cat l
    rw [List.map_append, List.map_append, ih]
    have h4 : (fourI s.size).map (fun n => UInt8.ofNat n.toNat) = four s.size := by
      have := nums_four s.size (by omega)
      rw [ByteArray.toList_eq] at this
      exact this
    have hb : (bytesOf s).map (fun n => UInt8.ofNat n.toNat) = s.data.toList := congrArg (fun z : ByteArray => z.data.toList) (nums_bytes2 s)
    rw [h4, hb]
theorem brinput_small (a : Int) (wa : -9223372036854775808 ≤ a ∧ a ≤ 9223372036854775807) (l : List ByteArray) (h : ∀ s ∈ l, s.size ≤ 4000) (hl : l.length ≤ 500) : Sha.Ev (fun k => Jh.f k a l) ⟨([J2.u8 a] ++ cat l).toArray⟩ := by
  have := brinput_ev l h hl l.length 0 [(Int.tmod (wrap64 ((Int.tmod a 256) + 256)) 256) % 256] (by omega) (by simp)
  have hm : -256 < Int.tmod a 256 ∧ Int.tmod a 256 < 256 := ⟨by have := Int.lt_tmod_of_pos a (b := 256) (by decide); omega, Int.tmod_lt_of_pos a (by decide)⟩
  have e1 : wrap64 (Int.tmod a 256 + 256) = Int.tmod a 256 + 256 := w64 (by omega) (by omega)
  have e0 : (Int.tmod (Int.tmod a 256 + 256) 256) % 256 = a % 256 := by
    rw [Int.tmod_eq_emod_of_nonneg (a := Int.tmod a 256 + 256) (by omega)]
    have := Int.tmod_add_mul_tdiv a 256
    omega
  have e : (strOfNums ([(Int.tmod (wrap64 ((Int.tmod a 256) + 256)) 256) % 256] ++ catI (l.drop 0))) = (⟨([J2.u8 a] ++ cat l).toArray⟩ : ByteArray) := by
    apply Oct.ba_ext
    rw [strOfNums_data, List.map_append, List.drop_zero, bcatI_cat l h, e1, e0]
    rfl
  rw [e] at this
  exact this
theorem bsmall_size (a : Int) (l : List ByteArray) (h : ∀ s ∈ l, s.size ≤ 4000) (hl : l.length ≤ 500) : (⟨([J2.u8 a] ++ cat l).toArray⟩ : ByteArray).size ≤ 140737488355000 := by
  have := bcat_len l h
  have : l.length * 4004 ≤ 500 * 4004 := Nat.mul_le_mul_right _ hl
  rw [← data_length]
  simp
  omega
theorem tag_same (t : Int) (wt : -9223372036854775808 ≤ t ∧ t ≤ 9223372036854775807) (s : ByteArray) (hs : s.size ≤ 4000) : ∃ r : ByteArray, Sha.Ev (fun k => J5.f k t [s]) r ∧ Sha.Ev (fun k => Jq.f k t [s]) r := by
  have h : ∀ x ∈ [s], x.size ≤ 4000 := by
    intro x hx
    simp at hx
    rw [hx]
    exact hs
  obtain ⟨r, h1, h2, _⟩ := sum_same _ (bsmall_size t [s] h (by simp))
  refine ⟨r, ?_, ?_⟩
  · unfold J5.f
    exact Ev.bind (binput_small t [s] h (by simp)) (Ev.bind h1 (Ev.pure _))
  · unfold Jq.f
    exact Ev.bind (brinput_small t wt [s] h (by simp)) (Ev.bind h2 (Ev.pure _))
end Go.Proofs.YtdodghifojkclaaGreatDoor.Sha
namespace Go.Proofs.YtdodghifojkclaaGreatDoor.Oct.Evt
open Go.RowKit Go.Proofs.YtdodghifojkclaaGreatDoor.PP Go.Proofs.YtdodghifojkclaaGreatDoorW.PrintWords Go.Proofs.YtdodghifojkclaaGreatDoorW.PrintLast Go.Proofs.YtdodghifojkclaaGreatDoorW.PrintMore
open Go.Proofs.YtdodghifojkclaaGreatDoor.Sha (ifs ifn)
set_option linter.unusedSimpArgs false
set_option linter.unusedVariables false

/-! names -/
theorem id_same (s : ByteArray) (hs : s.size ≤ 4000) : ∃ r, Sha.Ev (fun k => U5.f k s) r ∧ Sha.Ev (fun k => Uz.f k s) r := by
  obtain ⟨r, h1, h2⟩ := Sha.tag_same 7 (by decide) s hs
  exact ⟨r, Sha.Ev.bind h1 (Sha.Ev.pure _), Sha.Ev.bind h2 (Sha.Ev.pure _)⟩
/-! the example -/
def aa (n : Nat) : ByteArray := ⟨(List.replicate n 97).toArray⟩
theorem aa_size (n : Nat) : (aa n).size = n := by
  show (List.replicate n 97).toArray.size = n
  simp
theorem aa_succ (n : Nat) : aa n ++ (⟨#[97]⟩ : ByteArray) = aa (n + 1) := by
  apply ba_ext
  rw [data_app]
  show List.replicate n 97 ++ [97] = List.replicate (n + 1) 97
  rw [List.replicate_succ']
theorem right_aa : rightB 1 (aa 32) [] (⟨#[114]⟩ : ByteArray) (⟨#[]⟩ : ByteArray) = true := by
  unfold rightB
  rw [show ([] : List ByteArray).length = 0 from rfl, fromB_end, Bool.true_and]
  unfold tailB
  rw [aa_size]
  rfl
theorem enc_aa : (enc 1 (aa 32) [] (⟨#[114]⟩ : ByteArray) (⟨#[]⟩ : ByteArray)) = (((⟨#[1, 0, 32]⟩ : ByteArray) ++ aa 32) ++ (⟨#[0, 0, 1, 114, 0, 0]⟩ : ByteArray)) := by
  have e : lay (aa 32) = (⟨#[0, 32]⟩ : ByteArray) ++ aa 32 := by
    unfold lay
    rw [aa_size]
    rfl
  unfold enc cont
  rw [e]
  apply ba_ext
  simp only [data_app]
  rfl
theorem awake_loop : ∀ m i : Nat, i + m = 32 → Sha.Ev (fun k => J8.l0 k (aa i)) true
  | 0, i, h => by
    have e : i = 32 := by omega
    subst e
    obtain ⟨r, h1, h2⟩ := id_same (⟨#[120]⟩ : ByteArray) (by decide)
    refine Sha.Ev.succ (fun k => J8.l0.eq_2 (aa 32) k) (ifn (by rw [aa_size]; decide) ?_)
    have he := encode_ev 1 (aa 32) [] (⟨#[114]⟩ : ByteArray) (⟨#[]⟩ : ByteArray) (by simp)
    unfold encR at he
    rw [if_pos right_aa] at he
    refine Sha.Ev.bind he (ifs rfl (ifs (by rw [aa_size]; decide) (ifs (by rw [app_size, aa_size]; decide) (ifs (by rw [enc_aa]) ?_))))
    refine Sha.Ev.bind h1 (Sha.Ev.bind h2 ?_)
    rw [beq_self_eq_true]
    exact Sha.Ev.pure _
  | m + 1, i, h => by
    have ih := awake_loop m (i + 1) (by omega)
    refine Sha.Ev.succ (fun k => J8.l0.eq_2 (aa i) k) (ifs (by rw [aa_size]; omega) (ifs (by rw [aa_size]; omega) ?_))
    rw [aa_succ]
    exact ih
theorem awake_ev : Sha.Ev (fun k => J8.f k) true := awake_loop 32 0 rfl
end Go.Proofs.YtdodghifojkclaaGreatDoor.Oct.Evt
