/-
  Frames: the bytes of a frame: the program's are the document's.
  Conditions: none.
-/
import Derived.Test.YtbiempnleljciaaFrm1
import Derived.Test.YtbiempnleljciaaOct3
import Derived.Test.YtbiempnleljciaaPPx4
import Derived.Test.YtbiempnleljciaaPPx6
namespace Go.Proofs.Ytbiempnleljciaa.Frm
open Go.RowKit Go.Proofs.Ytbiempnleljciaa.PP Go.Proofs.Ytbiempnleljciaa.Oct Go.Proofs.YtbiempnleljciaaW.PrintWords Go.Proofs.YtbiempnleljciaaW.PrintLast Go.Proofs.YtbiempnleljciaaW.PrintMore
set_option linter.unusedSimpArgs false
set_option linter.unusedVariables false

theorem app_assoc (a b c : ByteArray) : a ++ b ++ c = a ++ (b ++ c) := by
  apply ba_ext
  simp only [data_app, List.append_assoc]
theorem nil_app (a : ByteArray) : (⟨#[]⟩ : ByteArray) ++ a = a := by
  apply ba_ext
  rw [data_app]
  rfl
/-- Two bytes. -/
def two (a b : Int) : ByteArray := strOfNums [a % 256] ++ strOfNums [b % 256]
theorem two_size (a b : Int) : (two a b).size = 2 := by unfold two; rw [app_size, strOfNums_size, strOfNums_size]; rfl
/-- Texts, each with its length. -/
def catT : List ByteArray → ByteArray
  | [] => ⟨#[]⟩
  | t :: l => lay t ++ catT l
/-- Ids, one behind the other. -/
def catI : List ByteArray → ByteArray
  | [] => ⟨#[]⟩
  | t :: l => t ++ catI l
/-- A frame's bytes. -/
def enc (kind dt : Int) (ids : List ByteArray) (bits : ByteArray) (texts : List ByteArray) : ByteArray :=
  if kind = 5 then two kind dt ++ lay (at_ texts 0)
  else if kind = 4 then two kind texts.length ++ catT texts
  else if kind = 2 then two kind ids.length ++ catI ids ++ lay bits
  else two kind ids.length ++ catI ids
theorem text_eq (k : Nat) (s : ByteArray) (h : s.size ≤ 65535) : octets_Text.f (k + 5) s = some (lay s, true) := by
  unfold octets_Text.f octets_Short.f
  rw [if_neg (by omega), short_eq, if_neg (by omega)]
  simp only [Option.bind_some]
  rw [if_pos (by rw [strOfNums_size]; simp; omega)]
  rfl
theorem text_ev (s : ByteArray) (h : s.size ≤ 65535) : Ev (fun k => octets_Text.f k s) (lay s, true) := by
  refine ⟨5, fun k hk => ?_⟩
  obtain ⟨j, rfl⟩ : ∃ j, k = j + 5 := ⟨k - 5, by omega⟩
  exact text_eq j s h
theorem rtext_ev (s : ByteArray) (h : s.size ≤ 65535) : Ev (fun k => palaverref01_Text.f k s) (lay s, true) := by
  refine ⟨8, fun k hk => ?_⟩
  obtain ⟨j, rfl⟩ : ∃ j, k = j + 8 := ⟨k - 8, by omega⟩
  show palaverref01_Text.f (j + 8) s = _
  unfold palaverref01_Text.f
  rw [ref_two _ _ (by omega), if_neg (by omega)]
  simp only [Option.bind_some, if_true]
  rw [if_pos (by rw [strOfNums_size]; simp; omega)]
  rfl
theorem catT_size : ∀ (l : List ByteArray), (∀ i, i < l.length → txAt l i) → (catT l).size ≤ l.length * 65537
  | [], _ => Nat.le_refl _
  | t :: l, h => by
    have h0 := h 0 (by simp)
    have ih := catT_size l (fun i hi => by have := h (i + 1) (by simp; omega); unfold txAt at *; rwa [at_cons_succ] at this)
    unfold txAt at h0
    rw [at_cons_zero] at h0
    show (lay t ++ catT l).size ≤ _
    rw [app_size, lay_size, List.length_cons]
    omega
theorem catI_size : ∀ (l : List ByteArray), (∀ i, i < l.length → (at_ l i).size = 32) → (catI l).size = l.length * 32
  | [], _ => rfl
  | t :: l, h => by
    have h0 := h 0 (by simp)
    have ih := catI_size l (fun i hi => by have := h (i + 1) (by simp; omega); rwa [at_cons_succ] at this)
    rw [at_cons_zero] at h0
    show (t ++ catI l).size = _
    rw [app_size, List.length_cons]
    omega
/-! what a right frame bears -/
theorem idsB_ok {l : List ByteArray} (h : idsB l = true) : IdsOk l ∧ l.length ≤ 64 := by
  unfold idsB fromB at h
  simp only [Bool.and_eq_true, decide_eq_true_eq] at h
  exact ⟨fun i hi => h.1 i (Nat.zero_le _) hi, by omega⟩
theorem textsB_ok {l : List ByteArray} {n : Int} (h : textsB l n = true) : TextsOk l ∧ 1 ≤ l.length ∧ (l.length : Int) ≤ n := by
  unfold textsB fromB at h
  simp only [Bool.and_eq_true, decide_eq_true_eq] at h
  exact ⟨fun i hi => h.1 i (Nat.zero_le _) hi, by omega, h.2.2⟩
theorem empty_of (s : ByteArray) (h : s.toList = []) : s = ⟨#[]⟩ := by
  apply ba_ext
  rw [← ByteArray.toList_eq, h]
/-- The five kinds of right frames. -/
theorem right_cases {kind dt : Int} {ids : List ByteArray} {bits : ByteArray} {texts : List ByteArray} (h : rightB kind dt ids bits texts = true) :
    (kind = 4 ∧ dt = 0 ∧ ids = [] ∧ bits = ⟨#[]⟩ ∧ TextsOk texts ∧ 1 ≤ texts.length ∧ texts.length ≤ 16) ∨
    (kind = 5 ∧ 0 ≤ dt ∧ dt ≤ 255 ∧ ids = [] ∧ bits = ⟨#[]⟩ ∧ ∃ t, texts = [t] ∧ 1 ≤ t.size ∧ t.size ≤ 65535) ∨
    (1 ≤ kind ∧ kind ≤ 3 ∧ dt = 0 ∧ texts = [] ∧ IdsOk ids ∧ ids.length ≤ 64 ∧ bits.size ≤ 512 ∧ (kind ≠ 2 → bits = ⟨#[]⟩)) := by
  unfold rightB at h
  by_cases k1 : kind = 1
  · rw [if_pos k1] at h
    simp only [Bool.and_eq_true, decide_eq_true_eq] at h
    have := idsB_ok h.1.1.1
    have e := empty_of _ h.1.1.2
    exact Or.inr (Or.inr ⟨by omega, by omega, h.1.2, h.2, this.1, this.2, by rw [e]; decide, fun _ => e⟩)
  rw [if_neg k1] at h
  by_cases k2 : kind = 2
  · rw [if_pos k2] at h
    simp only [Bool.and_eq_true, decide_eq_true_eq] at h
    have := idsB_ok h.1.1.1.1
    exact Or.inr (Or.inr ⟨by omega, by omega, h.1.2, h.2, this.1, this.2, by have := h.1.1.2; omega, fun z => absurd k2 z⟩)
  rw [if_neg k2] at h
  by_cases k3 : kind = 3
  · rw [if_pos k3] at h
    simp only [Bool.and_eq_true, decide_eq_true_eq] at h
    have := idsB_ok h.1.1.1.1
    have e := empty_of _ h.1.1.2
    exact Or.inr (Or.inr ⟨by omega, by omega, h.1.2, h.2, this.1, this.2, by rw [e]; decide, fun _ => e⟩)
  rw [if_neg k3] at h
  by_cases k4 : kind = 4
  · rw [if_pos k4] at h
    simp only [Bool.and_eq_true, decide_eq_true_eq] at h
    have := textsB_ok h.1.1.1
    exact Or.inl ⟨k4, h.1.2, h.2, empty_of _ h.1.1.2, this.1, this.2.1, by omega⟩
  rw [if_neg k4] at h
  by_cases k5 : kind = 5
  · rw [if_pos k5] at h
    simp only [Bool.and_eq_true, decide_eq_true_eq] at h
    have := textsB_ok h.1.1.1.2
    obtain ⟨t, rfl⟩ : ∃ t, texts = [t] := by
      match texts, this with
      | [t], _ => exact ⟨t, rfl⟩
      | [], z => simp at z
      | _ :: _ :: _, z => simp at z; omega
    have z := this.1 0 (by simp)
    unfold txAt at z
    rw [at_cons_zero] at z
    exact Or.inr (Or.inl ⟨k5, h.1.1.1.1.1, h.1.1.1.1.2, h.2, empty_of _ h.1.2, t, rfl, z.1, z.2⟩)
  · rw [if_neg k5] at h
    cases h
theorem enc_size {kind dt : Int} {ids : List ByteArray} {bits : ByteArray} {texts : List ByteArray} (h : rightB kind dt ids bits texts = true) : 2 ≤ (enc kind dt ids bits texts).size ∧ (enc kind dt ids bits texts).size ≤ 2000000 := by
  unfold enc
  rcases right_cases h with ⟨k, _, _, _, ht, h1, h2⟩ | ⟨k, _, _, _, _, t, rfl, h1, h2⟩ | ⟨k1, k2, _, _, hi, h1, h2, _⟩
  · rw [if_neg (by omega), if_pos k, app_size, two_size]
    have := catT_size texts ht
    have : texts.length * 65537 ≤ 16 * 65537 := Nat.mul_le_mul_right _ h2
    omega
  · rw [if_pos k, app_size, two_size, lay_size, at_cons_zero]
    omega
  · have := catI_size ids (fun i hi' => (hi i hi').1)
    have : ids.length * 32 ≤ 64 * 32 := Nat.mul_le_mul_right _ h1
    rw [if_neg (by omega), if_neg (by omega)]
    by_cases k : kind = 2
    · rw [if_pos k, app_size, app_size, two_size, lay_size]
      omega
    · rw [if_neg k, app_size, two_size]
      omega
/-! the program's bytes -/
theorem texts_data : ∀ (l : List ByteArray), TextsOk l → Ev (fun k => frame_Encode.texts k l) (catT l).data.toList
  | [], _ => Ev.pure _
  | t :: l, h => by
    have h0 := h 0 (by simp)
    have hl : TextsOk l := fun i hi => by have := h (i + 1) (by simp; omega); unfold txAt at *; rwa [at_cons_succ] at this
    have ih := texts_data l hl
    unfold txAt at h0
    rw [at_cons_zero] at h0
    show Ev (fun k => (octets_Text.f k t).bind fun t => (frame_Encode.texts k l).bind fun r => some (t.1.toList ++ r)) _
    refine Ev.bind (text_ev t h0.2) (Ev.bind ih ?_)
    rw [show (catT (t :: l)).data.toList = (lay t).toList ++ (catT l).data.toList by show (lay t ++ catT l).data.toList = _; rw [data_app, ByteArray.toList_eq]]
    exact Ev.pure _
theorem cat_data : ∀ (l : List ByteArray), frame_Encode.cat l = (catI l).data.toList
  | [] => rfl
  | t :: l => by
    show t.toList ++ frame_Encode.cat l = (t ++ catI l).data.toList
    rw [data_app, cat_data l, ByteArray.toList_eq]
theorem two_data (a b : Int) : (two a b).data.toList = [frame_Encode.u8 a] ++ [frame_Encode.u8 b] := by
  unfold two
  rw [data_app]
  rfl
theorem body_ev {kind dt : Int} {ids : List ByteArray} {bits : ByteArray} {texts : List ByteArray} (h : rightB kind dt ids bits texts = true) :
    Ev (fun k => frame_Encode.body k kind dt ids bits texts) (enc kind dt ids bits texts).data.toList := by
  unfold frame_Encode.body enc
  rcases right_cases h with ⟨k, _, _, _, ht, h1, h2⟩ | ⟨k, _, _, _, _, t, rfl, h1, h2⟩ | ⟨k1, k2, _, _, hi, h1, h2, _⟩
  · simp only [k, show ¬ (4 : Int) = 5 by decide, if_false, if_true]
    refine Ev.bind (texts_data texts ht) ?_
    rw [data_app, two_data]
    exact Ev.pure _
  · simp only [k, if_true, show 0 < [t].length by simp]
    have e : rdOf ByteArray.empty [t] 0 = t := rfl
    simp only [e]
    refine Ev.bind (text_ev t h2) ?_
    rw [data_app, two_data, at_cons_zero, ByteArray.toList_eq]
    exact Ev.pure _
  · simp only [show ¬ kind = 5 by omega, show ¬ kind = 4 by omega, if_false]
    by_cases k : kind = 2
    · simp only [k, if_true]
      refine Ev.bind (text_ev bits (by omega)) ?_
      rw [data_app, data_app, two_data, cat_data, ByteArray.toList_eq]
      exact Ev.pure _
    · simp only [k, if_false]
      rw [data_app, two_data, cat_data]
      exact Ev.pure _
/-- What the program's Encode answers. -/
noncomputable def encR (kind dt : Int) (ids : List ByteArray) (bits : ByteArray) (texts : List ByteArray) : ByteArray × Int :=
  if rightB kind dt ids bits texts = true then (if 65535 < (enc kind dt ids bits texts).size then (⟨#[]⟩, 3) else (enc kind dt ids bits texts, 0)) else (⟨#[]⟩, 2)
theorem encode_ev (kind dt : Int) (ids : List ByteArray) (bits : ByteArray) (texts : List ByteArray) (hi : ids.length ≤ 9223372036854775807) (ht : texts.length ≤ 9223372036854775807) :
    Ev (fun k => frame_Encode.f k kind dt ids bits texts) (encR kind dt ids bits texts) := by
  unfold frame_Encode.f encR
  refine Ev.bind (right_ev kind dt ids bits texts hi ht) ?_
  cases h : rightB kind dt ids bits texts
  · simp only [Bool.false_eq_true, if_false]
    exact Ev.pure _
  · simp only [if_true]
    refine Ev.bind (body_ev h) ?_
    have := (enc_size h).2
    simp only [← size_len]
    simp only [show (enc kind dt ids bits texts).size ≤ 140737488355328 by omega, if_true]
    exact Ev.pure _
/-! the document's bytes -/
theorem renc_texts (kind dt : Int) (ids : List ByteArray) (bits : ByteArray) (l : List ByteArray) (h : TextsOk l) (hl : l.length ≤ 100) : ∀ (m i : Nat) (acc : ByteArray), i + m = l.length → acc.size ≤ 10 + i * 65537 →
    Ev (fun k => palaverref07_Encode.l0 k acc (i : Int) kind dt ids bits l) (acc ++ catT (l.drop i))
  | 0, i, acc, hi, ha => by
    rw [List.drop_of_length_le (by omega), show acc ++ catT [] = acc from app_nil acc]
    refine Ev.succ (G := fun _ => some acc) (fun k => ?_) (Ev.pure _)
    simp only [palaverref07_Encode.l0]
    rw [if_neg (by omega)]
  | m + 1, i, acc, hi, ha => by
    have hx := h i (by omega)
    unfold txAt at hx
    have hs : (lay (at_ l i)).size = 2 + (at_ l i).size := lay_size _
    have hm : (i + 1) * 65537 = i * 65537 + 65537 := by omega
    have hb : i * 65537 ≤ 100 * 65537 := Nat.mul_le_mul_right _ (by omega)
    have ih := renc_texts kind dt ids bits l h hl m (i + 1) (acc ++ lay (at_ l i)) (by omega) (by rw [app_size]; omega)
    have hd : l.drop i = at_ l i :: l.drop (i + 1) := by
      rw [List.drop_eq_getElem_cons (by omega)]
      congr 1
      unfold at_ rdOf
      simp [show i < l.length by omega]
    rw [hd, show acc ++ catT (at_ l i :: l.drop (i + 1)) = (acc ++ lay (at_ l i)) ++ catT (l.drop (i + 1)) from (app_assoc _ _ _).symm]
    have e2 : wrap64 ((i : Int) + 1) = ((i + 1 : Nat) : Int) := by rw [w64 (by omega) (by omega)]; omega
    refine Ev.succ (G := fun k => (palaverref01_Text.f k (at_ l i)).bind fun bt => if acc.size + bt.1.size ≤ 9223372036854775807 then palaverref07_Encode.l0 k (acc ++ bt.1) ((i + 1 : Nat) : Int) kind dt ids bits l else none) (fun k => ?_) ?_
    · simp only [palaverref07_Encode.l0, e2]
      rw [if_pos (by omega), if_pos (by omega)]
      rfl
    · refine Ev.bind (rtext_ev _ hx.2) ?_
      simp only [show acc.size + (lay (at_ l i)).size ≤ 9223372036854775807 by omega, if_true]
      exact ih
theorem renc_ids (kind : Int) (dt : Int) (l : List ByteArray) (bits : ByteArray) (texts : List ByteArray) (h : ∀ i, i < l.length → (at_ l i).size = 32) (hl : l.length ≤ 100) (hb : bits.size ≤ 512) : ∀ (m i : Nat) (acc : ByteArray), i + m = l.length → acc.size ≤ 10 + i * 32 →
    Ev (fun k => palaverref07_Encode.l1 k acc (i : Int) kind dt l bits texts) (if kind = 2 then acc ++ catI (l.drop i) ++ lay bits else acc ++ catI (l.drop i))
  | 0, i, acc, hi, ha => by
    rw [List.drop_of_length_le (by omega), show acc ++ catI [] = acc from app_nil acc]
    by_cases k : kind = 2
    · rw [if_pos k]
      refine Ev.succ (G := fun k => (palaverref01_Text.f k bits).bind fun bt => if acc.size + bt.1.size ≤ 9223372036854775807 then some (acc ++ bt.1) else none) (fun k2 => ?_) ?_
      · simp only [palaverref07_Encode.l1]
        rw [if_neg (by omega), if_pos k]
      · refine Ev.bind (rtext_ev _ (by omega)) ?_
        simp only [show acc.size + (lay bits).size ≤ 9223372036854775807 by rw [lay_size]; omega, if_true]
        exact Ev.pure _
    · rw [if_neg k]
      refine Ev.succ (G := fun _ => some acc) (fun k2 => ?_) (Ev.pure _)
      simp only [palaverref07_Encode.l1]
      rw [if_neg (by omega), if_neg k]
  | m + 1, i, acc, hi, ha => by
    have hx := h i (by omega)
    have ih := renc_ids kind dt l bits texts h hl hb m (i + 1) (acc ++ at_ l i) (by omega) (by rw [app_size]; omega)
    have hd : l.drop i = at_ l i :: l.drop (i + 1) := by
      rw [List.drop_eq_getElem_cons (by omega)]
      congr 1
      unfold at_ rdOf
      simp [show i < l.length by omega]
    rw [hd, show acc ++ catI (at_ l i :: l.drop (i + 1)) = (acc ++ at_ l i) ++ catI (l.drop (i + 1)) from (app_assoc _ _ _).symm]
    have e2 : wrap64 ((i : Int) + 1) = ((i + 1 : Nat) : Int) := by rw [w64 (by omega) (by omega)]; omega
    refine Ev.succ (fun k => ?_) ih
    simp only [palaverref07_Encode.l1, e2]
    unfold at_ at hx ⊢
    rw [if_pos (by omega), if_pos (by omega), if_pos (by omega)]
theorem rencode_ev {kind dt : Int} {ids : List ByteArray} {bits : ByteArray} {texts : List ByteArray} (h : rightB kind dt ids bits texts = true) :
    Ev (fun k => palaverref07_Encode.f k kind dt ids bits texts) (enc kind dt ids bits texts) := by
  have z1 : ∀ x : Int, (strOfNums [x]).size = 1 := fun x => by rw [strOfNums_size]; rfl
  unfold palaverref07_Encode.f enc
  simp only [Option.bind_some, z1]
  rcases right_cases h with ⟨k, _, _, _, ht, h1, h2⟩ | ⟨k, _, _, _, _, t, rfl, h1, h2⟩ | ⟨k1, k2, _, _, hi, h1, h2, _⟩
  · simp only [k, show ¬ (4 : Int) = 5 by decide, if_false, if_true]
    have := renc_texts 4 dt ids bits texts ht (by omega) texts.length 0 (two 4 texts.length) (by omega) (by rw [two_size]; omega)
    exact this
  · simp only [k, if_true, show (0 : Int) < (([t].length : Nat) : Int) by simp]
    have e : rdOf ByteArray.empty [t] 0 = t := rfl
    simp only [e, at_cons_zero]
    refine Ev.bind (rtext_ev t h2) ?_
    have : ((strOfNums [(5 : Int) % 256]) ++ (strOfNums [dt % 256])).size + (lay t).size ≤ 9223372036854775807 := by rw [app_size, z1, z1, lay_size]; omega
    simp only [this, if_true]
    simp only [show 1 + 1 ≤ 9223372036854775807 by decide, if_true]
    exact Ev.pure _
  · simp only [show ¬ kind = 5 by omega, show ¬ kind = 4 by omega, if_false]
    have := renc_ids kind dt ids bits texts (fun i hi' => (hi i hi').1) (by omega) h2 ids.length 0 (two kind ids.length) (by omega) (by rw [two_size]; omega)
    exact this
end Go.Proofs.Ytbiempnleljciaa.Frm
