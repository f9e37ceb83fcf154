/-
  Events: which are right, by the program's word.
  Conditions: none.
-/
import Derived.Test.YtmedpnclkbkiiaaDoorOctB
import Derived.Test.YtmedpnclkbkiiaaDoorSha5
import Derived.Test.YtmedpnclkbkiiaaDoorPPx2
namespace Go.Proofs.YtmedpnclkbkiiaaDoor.Oct.Evt
open Go.RowKit Go.Proofs.YtmedpnclkbkiiaaDoor.PP Go.Proofs.YtmedpnclkbkiiaaDoorW.PrintWords Go.Proofs.YtmedpnclkbkiiaaDoorW.PrintLast Go.Proofs.YtmedpnclkbkiiaaDoorW.PrintMore
open Go.Proofs.YtmedpnclkbkiiaaDoor.Sha (ifs ifn)
set_option linter.unusedSimpArgs false
set_option linter.unusedVariables false

/-- The element at a place. -/
def at_ (l : List ByteArray) (i : Nat) : ByteArray := rdOf ByteArray.empty l (i : Int)
theorem at_cons_zero (x : ByteArray) (l : List ByteArray) : at_ (x :: l) 0 = x := rfl
theorem at_cons_succ (x : ByteArray) (l : List ByteArray) (i : Nat) : at_ (x :: l) (i + 1) = at_ l i := by
  unfold at_ rdOf
  simp
def idAt (l : List ByteArray) (i : Nat) : Prop := (at_ l i).size = 32 ∧ (0 < i → Op.bytesLess (at_ l (i - 1)).toList (at_ l i).toList = true)
def IdsOk (l : List ByteArray) : Prop := ∀ i, i < l.length → idAt l i
open Classical in
/-- What holds from a place on. -/
noncomputable def fromB (p : Nat → Prop) (n i : Nat) : Bool := decide (∀ j, i ≤ j → j < n → p j)
theorem fromB_end (p : Nat → Prop) (n : Nat) : fromB p n n = true := by
  unfold fromB
  simp only [decide_eq_true_eq]
  exact fun j h1 h2 => absurd h2 (by omega)
theorem fromB_yes (p : Nat → Prop) (n i : Nat) (hi : i < n) (h : p i) : fromB p n i = fromB p n (i + 1) := by
  unfold fromB
  refine decide_eq_decide.2 ⟨fun z j h1 h2 => z j (by omega) h2, fun z j h1 h2 => ?_⟩
  by_cases e : j = i
  · rw [e]; exact h
  · exact z j (by omega) h2
theorem fromB_no (p : Nat → Prop) (n i : Nat) (hi : i < n) (h : ¬ p i) : fromB p n i = false := by
  unfold fromB
  simp only [decide_eq_false_iff_not]
  exact fun z => h (z i (Nat.le_refl _) hi)
/-- What is asked of an event beside its parents' order. -/
def tailB (kind : Int) (a : ByteArray) (ps : List ByteArray) (b s : ByteArray) : Bool :=
  decide (1 ≤ kind) && decide (kind ≤ 5) && (decide (kind = 1) == decide (ps.length = 0)) && (!(decide (kind = 4) || decide (kind = 5)) || decide (b.size = 32)) && decide (a.size = 32) && decide (ps.length ≤ 8) && decide (b.size ≤ 200) && decide (s.size ≤ 65535)
/-- Is an event right? -/
noncomputable def rightB (kind : Int) (a : ByteArray) (ps : List ByteArray) (b s : ByteArray) : Bool := fromB (idAt ps) ps.length 0 && tailB kind a ps b s
theorem hash_eq (a : ByteArray) : event_hash.f a = some (decide (a.size = 32)) := by
  unfold event_hash.f
  congr 1
  by_cases h : a.size = 32
  · rw [decide_eq_true h, h]; rfl
  · rw [decide_eq_false h]
    exact beq_eq_false_iff_ne.mpr (by omega)
theorem j2_ev (x : Bool) (kind : Int) (a : ByteArray) (ps : List ByteArray) (b s : ByteArray) : Sha.Ev (fun k => event_Right.j2 k x kind a ps b s) (x && !decide (ps.length = 0) && decide (a.size = 32) && decide (ps.length ≤ 8) && decide (b.size ≤ 200) && decide (s.size ≤ 65535)) := by
  refine Sha.Ev.succ (G := fun _ => some (x && !decide (ps.length = 0) && decide (a.size = 32) && decide (ps.length ≤ 8) && decide (b.size ≤ 200) && decide (s.size ≤ 65535))) (fun k => ?_) (Sha.Ev.pure _)
  simp only [event_Right.j2, hash_eq, Option.bind_some]
  have e0 : ((ps.length : Int) = 0) ↔ ps.length = 0 := by omega
  have e1 : ((ps.length : Int) ≤ 8) ↔ ps.length ≤ 8 := by omega
  have e2 : ((b.size : Int) ≤ 200) ↔ b.size ≤ 200 := by omega
  have e3 : ((s.size : Int) ≤ 65535) ↔ s.size ≤ 65535 := by omega
  simp only [e0, e1, e2, e3, decide_eq_true_eq]
  cases x <;> by_cases h0 : ps.length = 0 <;> by_cases h1 : a.size = 32 <;> by_cases h2 : ps.length ≤ 8 <;> by_cases h3 : b.size ≤ 200 <;> simp [h0, h1, h2, h3]
theorem j1_ev (kind : Int) (x : Bool) (hx : x = (decide (kind = 4) || decide (kind = 5))) (a : ByteArray) (ps : List ByteArray) (b s : ByteArray) (h1 : kind ≠ 1) : Sha.Ev (fun k => event_Right.j1 k kind x kind a ps b s) (tailB kind a ps b s) := by
  cases x
  · have hk : kind ≠ 4 ∧ kind ≠ 5 := by
      constructor <;> (intro z; rw [z] at hx; simp at hx)
    have h2 : tailB kind a ps b s = ((decide (kind = 2) || decide (kind = 3)) && !decide (ps.length = 0) && decide (a.size = 32) && decide (ps.length ≤ 8) && decide (b.size ≤ 200) && decide (s.size ≤ 65535)) := by
      unfold tailB
      by_cases k2 : kind = 2
      · subst k2
        by_cases h0 : ps.length = 0 <;> simp [h0]
      · by_cases k3 : kind = 3
        · subst k3
          by_cases h0 : ps.length = 0 <;> simp [h0]
        · have : ¬ (1 ≤ kind ∧ kind ≤ 5) := by omega
          by_cases g : 1 ≤ kind
          · have g2 : ¬ kind ≤ 5 := fun z => this ⟨g, z⟩
            simp [k2, k3, g2]
          · simp [k2, k3, g]
    rw [h2]
    by_cases k2 : kind = 2
    · refine Sha.Ev.succ (G := fun k => event_Right.j2 k (kind == 2) kind a ps b s) (fun k => ?_) ?_
      · simp only [event_Right.j1, if_pos k2]
        rfl
      · have := j2_ev (kind == 2) kind a ps b s
        rw [show (kind == 2) = (decide (kind = 2) || decide (kind = 3)) by rw [k2]; rfl] at this ⊢
        exact this
    · refine Sha.Ev.succ (G := fun k => event_Right.j2 k (kind == 3) kind a ps b s) (fun k => ?_) ?_
      · simp only [event_Right.j1, if_neg k2]
        rfl
      · have := j2_ev (kind == 3) kind a ps b s
        rw [show (kind == 3) = (decide (kind = 2) || decide (kind = 3)) by simp only [decide_eq_false k2, Bool.false_or]; rfl] at this ⊢
        exact this
  · have hk : kind = 4 ∨ kind = 5 := by
      have := hx.symm
      simp only [Bool.or_eq_true, decide_eq_true_eq] at this
      exact this
    refine Sha.Ev.succ (G := fun _ => some (tailB kind a ps b s)) (fun k => ?_) (Sha.Ev.pure _)
    simp only [event_Right.j1, hash_eq, Option.bind_some]
    have e0 : ((ps.length : Int) = 0) ↔ ps.length = 0 := by omega
    have e1 : ((ps.length : Int) ≤ 8) ↔ ps.length ≤ 8 := by omega
    have e2 : ((b.size : Int) ≤ 200) ↔ b.size ≤ 200 := by omega
    have e3 : ((s.size : Int) ≤ 65535) ↔ s.size ≤ 65535 := by omega
    simp only [e0, e1, e2, e3, decide_eq_true_eq]
    unfold tailB
    rcases hk with rfl | rfl
    · by_cases g : b.size = 32 <;> by_cases h0 : ps.length = 0 <;> by_cases h1 : a.size = 32 <;> by_cases h2 : ps.length ≤ 8 <;> simp [g, h0, h1, h2]
    · by_cases g : b.size = 32 <;> by_cases h0 : ps.length = 0 <;> by_cases h1 : a.size = 32 <;> by_cases h2 : ps.length ≤ 8 <;> simp [g, h0, h1, h2]
theorem right_loop (kind : Int) (a : ByteArray) (l : List ByteArray) (b s : ByteArray) (hl : l.length ≤ 9223372036854775807) : ∀ m i : Nat, i + m = l.length →
    Sha.Ev (fun k => event_Right.l0 k l (l.length : Int) (i : Int) kind a l b s) (fromB (idAt l) l.length i && tailB kind a l b s)
  | 0, i, h => by
    rw [show i = l.length by omega, fromB_end, Bool.true_and]
    by_cases k1 : kind = 1
    · refine Sha.Ev.succ (G := fun _ => some (tailB kind a l b s)) (fun k => ?_) (Sha.Ev.pure _)
      simp only [event_Right.l0]
      rw [if_neg (by omega), if_pos k1]
      simp only [hash_eq, Option.bind_some]
      have e0 : ((l.length : Int) > 0) ↔ ¬ l.length = 0 := by omega
      have e1 : ((l.length : Int) ≤ 8) ↔ l.length ≤ 8 := by omega
      have e2 : ((b.size : Int) ≤ 200) ↔ b.size ≤ 200 := by omega
      have e3 : ((s.size : Int) ≤ 65535) ↔ s.size ≤ 65535 := by omega
      simp only [e0, e1, e2, e3, decide_eq_true_eq]
      unfold tailB
      subst k1
      by_cases h0 : l.length = 0 <;> by_cases h1 : a.size = 32 <;> by_cases h2 : b.size ≤ 200 <;> simp [h0, h1, h2]
    · by_cases k4 : kind = 4
      · refine Sha.Ev.succ (G := fun k => event_Right.j1 k kind (kind == 4) kind a l b s) (fun k => ?_) (j1_ev kind _ ?_ a l b s k1)
        · simp only [event_Right.l0]
          rw [if_neg (by omega), if_neg k1, if_pos k4]
        · rw [k4]; rfl
      · refine Sha.Ev.succ (G := fun k => event_Right.j1 k kind (kind == 5) kind a l b s) (fun k => ?_) (j1_ev kind _ ?_ a l b s k1)
        · simp only [event_Right.l0]
          rw [if_neg (by omega), if_neg k1, if_neg k4]
        · rw [decide_eq_false k4, Bool.false_or]; rfl
  | m + 1, i, h => by
    have ih := right_loop kind a l b s hl m (i + 1) (by omega)
    by_cases hs : (at_ l i).size = 32
    · by_cases h0 : 0 < i
      · by_cases hb : Op.bytesLess (at_ l (i - 1)).toList (at_ l i).toList = true
        · rw [fromB_yes _ _ _ (by omega) ⟨hs, fun _ => hb⟩]
          refine Sha.Ev.succ (fun k => ?_) ih
          have e1 : wrap64 ((i : Int) - 1) = ((i - 1 : Nat) : Int) := by rw [w64 (by omega) (by omega)]; omega
          have e2 : wrap64 ((i : Int) + 1) = ((i + 1 : Nat) : Int) := by rw [w64 (by omega) (by omega)]; omega
          simp only [event_Right.l0, e1, e2, hash_eq, Option.bind_some]
          unfold at_ at hs hb
          rw [if_pos (by omega), if_pos (by omega), if_pos (by omega), if_pos (decide_eq_true hs), if_pos (by omega), if_pos (by omega), if_pos (by omega), if_pos hb]
        · rw [fromB_no _ _ _ (by omega) (fun z => hb (z.2 h0)), Bool.false_and]
          refine Sha.Ev.succ (G := fun _ => some false) (fun k => ?_) (Sha.Ev.pure _)
          have e1 : wrap64 ((i : Int) - 1) = ((i - 1 : Nat) : Int) := by rw [w64 (by omega) (by omega)]; omega
          simp only [event_Right.l0, e1, hash_eq, Option.bind_some]
          unfold at_ at hs hb
          rw [if_pos (by omega), if_pos (by omega), if_pos (by omega), if_pos (decide_eq_true hs), if_pos (by omega), if_pos (by omega), if_pos (by omega), if_neg hb]
      · rw [fromB_yes _ _ _ (by omega) ⟨hs, fun z => absurd z h0⟩]
        refine Sha.Ev.succ (fun k => ?_) ih
        have e2 : wrap64 ((i : Int) + 1) = ((i + 1 : Nat) : Int) := by rw [w64 (by omega) (by omega)]; omega
        simp only [event_Right.l0, e2, hash_eq, Option.bind_some]
        unfold at_ at hs
        rw [if_pos (by omega), if_pos (by omega), if_pos (by omega), if_pos (decide_eq_true hs), if_neg (by omega)]
    · rw [fromB_no _ _ _ (by omega) (fun z => hs z.1), Bool.false_and]
      refine Sha.Ev.succ (G := fun _ => some false) (fun k => ?_) (Sha.Ev.pure _)
      simp only [event_Right.l0, hash_eq, Option.bind_some]
      unfold at_ at hs
      rw [if_pos (by omega), if_pos (by omega), if_pos (by omega), if_neg (by rw [decide_eq_false hs]; decide)]
theorem right_ev (kind : Int) (a : ByteArray) (ps : List ByteArray) (b s : ByteArray) (hl : ps.length ≤ 9223372036854775807) : Sha.Ev (fun k => event_Right.f k kind a ps b s) (rightB kind a ps b s) := right_loop kind a ps b s hl ps.length 0 (by omega)
/-- What a right event bears. -/
theorem right_has {kind : Int} {a : ByteArray} {ps : List ByteArray} {b s : ByteArray} (h : rightB kind a ps b s = true) :
    1 ≤ kind ∧ kind ≤ 5 ∧ a.size = 32 ∧ ps.length ≤ 8 ∧ b.size ≤ 200 ∧ s.size ≤ 65535 ∧ ∀ i, i < ps.length → (at_ ps i).size = 32 := by
  unfold rightB tailB fromB at h
  simp only [Bool.and_eq_true, decide_eq_true_eq] at h
  obtain ⟨h0, ⟨⟨⟨⟨⟨⟨⟨h1, h2⟩, _⟩, _⟩, h3⟩, h4⟩, h5⟩, h6⟩⟩ := h
  exact ⟨h1, h2, h3, h4, h5, h6, fun i hi => (h0 i (Nat.zero_le _) hi).1⟩
theorem right_bare {kind : Int} {a : ByteArray} {ps : List ByteArray} {b s : ByteArray} (h : rightB kind a ps b s = true) : rightB kind a ps b ⟨#[]⟩ = true := by
  unfold rightB tailB at h ⊢
  simp only [Bool.and_eq_true] at h ⊢
  exact ⟨h.1, ⟨h.2.1, by decide⟩⟩
theorem app_assoc (a b c : ByteArray) : a ++ b ++ c = a ++ (b ++ c) := by
  apply ba_ext
  simp only [data_app, List.append_assoc]
theorem nil_app (a : ByteArray) : (⟨#[]⟩ : ByteArray) ++ a = a := by
  apply ba_ext
  rw [data_app]
  rfl
/-- One byte. -/
def one (a : Int) : ByteArray := strOfNums [a % 256]
theorem one_size (a : Int) : (one a).size = 1 := by unfold one; rw [strOfNums_size]; rfl
/-- Ids, one behind the other. -/
def catI : List ByteArray → ByteArray
  | [] => ⟨#[]⟩
  | t :: l => t ++ catI l
/-- What of an event is signed. -/
def cont (kind : Int) (a : ByteArray) (ps : List ByteArray) (b : ByteArray) : ByteArray := (((one kind ++ lay a) ++ one ps.length) ++ catI ps) ++ lay b
/-- An event's bytes. -/
def enc (kind : Int) (a : ByteArray) (ps : List ByteArray) (b s : ByteArray) : ByteArray := cont kind a ps b ++ lay s
theorem text_eq (k : Nat) (s : ByteArray) (h : s.size ≤ 65535) : octets_Text.f (k + 5) s = some (lay s, true) := by
  unfold octets_Text.f octets_Short.f
  rw [if_neg (by omega), short_eq, if_neg (by omega)]
  simp only [Option.bind_some]
  rw [if_pos (by rw [strOfNums_size]; simp; omega)]
  rfl
theorem text_ev (s : ByteArray) (h : s.size ≤ 65535) : Sha.Ev (fun k => octets_Text.f k s) (lay s, true) := by
  refine ⟨5, fun k hk => ?_⟩
  obtain ⟨j, rfl⟩ : ∃ j, k = j + 5 := ⟨k - 5, by omega⟩
  exact text_eq j s h
theorem catI_size : ∀ (l : List ByteArray), (∀ i, i < l.length → (at_ l i).size = 32) → (catI l).size = l.length * 32
  | [], _ => rfl
  | t :: l, h => by
    have h0 := h 0 (by simp)
    have ih := catI_size l (fun i hi => by have := h (i + 1) (by simp; omega); rwa [at_cons_succ] at this)
    rw [at_cons_zero] at h0
    show (t ++ catI l).size = _
    rw [app_size, List.length_cons]
    omega
theorem cat_data : ∀ (l : List ByteArray), event_content.cat l = (catI l).data.toList
  | [] => rfl
  | t :: l => by
    show t.toList ++ event_content.cat l = (t ++ catI l).data.toList
    rw [data_app, cat_data l, ByteArray.toList_eq]
theorem cont_data (kind : Int) (a : ByteArray) (ps : List ByteArray) (b : ByteArray) :
    (cont kind a ps b).data.toList = (((([event_content.u8 kind] ++ (lay a).toList) ++ [event_content.u8 ps.length]) ++ event_content.cat ps) ++ (lay b).toList) := by
  unfold cont
  simp only [data_app, cat_data, ByteArray.toList_eq]
  rfl
theorem cont_size {kind : Int} {a : ByteArray} {ps : List ByteArray} {b s : ByteArray} (h : rightB kind a ps b s = true) : (cont kind a ps b).size = 38 + ps.length * 32 + b.size := by
  obtain ⟨_, _, h3, h4, h5, _, h7⟩ := right_has h
  have := catI_size ps h7
  unfold cont
  simp only [app_size, one_size, lay_size]
  omega
theorem content_ev {kind : Int} {a : ByteArray} {ps : List ByteArray} {b s : ByteArray} (h : rightB kind a ps b s = true) (z : ByteArray) : Sha.Ev (fun k => event_content.f k kind a ps b z) (cont kind a ps b) := by
  obtain ⟨_, _, h3, h4, h5, _, h7⟩ := right_has h
  have hz := cont_size h
  unfold event_content.f
  refine Sha.Ev.bind (text_ev a (by omega)) (Sha.Ev.bind (text_ev b (by omega)) ?_)
  simp only [← cont_data, ← size_len]
  refine ifs (by omega) ?_
  exact Sha.Ev.pure _
/-- What the program's Encode answers. -/
noncomputable def encR (kind : Int) (a : ByteArray) (ps : List ByteArray) (b s : ByteArray) : ByteArray × Int :=
  if rightB kind a ps b s = true then (enc kind a ps b s, 0) else (⟨#[]⟩, 2)
theorem encode_ev (kind : Int) (a : ByteArray) (ps : List ByteArray) (b s : ByteArray) (hl : ps.length ≤ 9223372036854775807) : Sha.Ev (fun k => event_Encode.f k kind a ps b s) (encR kind a ps b s) := by
  unfold event_Encode.f encR
  refine Sha.Ev.bind (right_ev kind a ps b s hl) ?_
  cases h : rightB kind a ps b s
  · exact Sha.Ev.pure _
  · obtain ⟨_, _, h3, h4, h5, h6, h7⟩ := right_has h
    have hz := cont_size h
    refine ifs rfl (Sha.Ev.bind (text_ev s h6) (Sha.Ev.bind (content_ev h s) ?_))
    refine ifs (by rw [lay_size]; omega) ?_
    exact Sha.Ev.pure _
end Go.Proofs.YtmedpnclkbkiiaaDoor.Oct.Evt
