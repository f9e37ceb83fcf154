/-
  Frames: what the program's Decode answers: a right frame of which the bytes are these, or none.
  Conditions: none.
-/
import Derived.Test.YtbiempnleljciaaFrm2
import Derived.Test.YtbiempnleljciaaPPx9
namespace Go.Proofs.Ytbiempnleljciaa.Frm
open Go.RowKit Go.Proofs.Ytbiempnleljciaa.PP Go.Proofs.Ytbiempnleljciaa.Oct Go.Proofs.YtbiempnleljciaaW.PrintWords Go.Proofs.YtbiempnleljciaaW.PrintLast Go.Proofs.YtbiempnleljciaaW.PrintMore
set_option linter.unusedSimpArgs false
set_option linter.unusedVariables false

theorem take_sound {s a s2 : ByteArray} {b : Bool} {n : Int} (h : take s b n = (a, s2, false)) : b = false ∧ s = a ++ s2 ∧ (a.size : Int) = n := by
  unfold take at h
  by_cases c : b = true ∨ n < 0 ∨ n > (s.size : Int)
  · rw [if_pos c] at h
    simp at h
  · rw [if_neg c] at h
    simp only [Prod.mk.injEq] at h
    obtain ⟨h1, h2, _⟩ := h
    have hb : b = false := by
      cases b
      · rfl
      · exact absurd (Or.inl rfl) c
    have h0 : 0 ≤ n := by omega
    have h9 : n ≤ s.size := by omega
    refine ⟨hb, ?_, ?_⟩
    · apply bytesOf_inj
      rw [bytesOf_app, ← h1, ← h2, bytesOf_ext, bytesOf_ext]
      rw [List.drop_zero, show List.take s.size (bytesOf s) = bytesOf s from List.take_of_length_le (by rw [bytesOf_length]; exact Nat.le_refl _), List.take_append_drop]
    · rw [← h1]
      have : (s.extract 0 n.toNat).size = n.toNat := by simp; omega
      omega
theorem bytes_two {a : ByteArray} (h : a.size = 2) : ∃ x y : Int, bytesOf a = [x, y] ∧ 0 ≤ x ∧ x < 256 ∧ 0 ≤ y ∧ y < 256 := by
  have hl := bytesOf_length a
  rw [h] at hl
  match hb : bytesOf a, hl with
  | [x, y], _ =>
    have m1 := bytesOf_mem a x (by rw [hb]; simp)
    have m2 := bytesOf_mem a y (by rw [hb]; simp)
    exact ⟨x, y, rfl, m1.1, m1.2, m2.1, m2.2⟩
theorem text_sound {s t s2 : ByteArray} {b : Bool} (h : text s b = (t, s2, false)) : b = false ∧ s = lay t ++ s2 ∧ t.size ≤ 65535 := by
  unfold text at h
  rcases e : take s b 2 with ⟨a, s1, b1⟩
  rw [e] at h
  simp only at h
  obtain ⟨hb1, hs1, hn⟩ := take_sound h
  subst hb1
  obtain ⟨hb, hs, h2⟩ := take_sound e
  obtain ⟨x, y, hxy, x0, x1, y0, y1⟩ := bytes_two (a := a) (by omega)
  rw [hxy] at hn
  have hv : bv 0 [x, y] = x * 256 + y := by simp [bv]
  rw [hv] at hn
  have ha : a = strOfNums [(t.size : Int) / 256, (t.size : Int) % 256] := by
    rw [← nums_bytes a, hxy, show (t.size : Int) / 256 = x by omega, show (t.size : Int) % 256 = y by omega]
  refine ⟨hb, ?_, by omega⟩
  rw [hs, hs1, ha]
  unfold lay
  rw [app_assoc]
/-- One byte's number. -/
def num1 (s : ByteArray) (b : Bool) : Int := bv 0 (bytesOf (take s b 1).1)
theorem num1_range (s : ByteArray) (b : Bool) : 0 ≤ num1 s b ∧ num1 s b < 256 := by
  unfold num1
  have hl := take_size s b 1 1 (by decide)
  have hl2 := bytesOf_length (take s b 1).1
  have hm := bytesOf_mem (take s b 1).1
  match e : bytesOf (take s b 1).1 with
  | [] => simp [bv]
  | [x] =>
    have := hm x (by rw [e]; simp)
    simp only [bv, List.foldl]
    omega
  | _ :: _ :: _ =>
    rw [e] at hl2
    simp at hl2
    omega
theorem byte_sound {s a s2 : ByteArray} {b : Bool} (h : take s b 1 = (a, s2, false)) : b = false ∧ s = strOfNums [num1 s b] ++ s2 := by
  obtain ⟨hb, hs, h1⟩ := take_sound h
  have e : num1 s b = bv 0 (bytesOf a) := by unfold num1; rw [h]
  have hl := bytesOf_length a
  refine ⟨hb, ?_⟩
  rw [e]
  match hx : bytesOf a, hl with
  | [x], _ =>
    have hv : bv 0 [x] = x := bv_one x
    rw [hv, ← hx, nums_bytes]
    exact hs
  | [], z => simp at z; omega
  | _ :: _ :: _, z => simp at z; omega
theorem byte_ev (s : ByteArray) (b : Bool) : Ev (fun k => octets_Reader_Byte.f k s b) (num1 s b, (take s b 1).2.1, (take s b 1).2.2) := ⟨8, fun k hk => rByte_eq k s b hk⟩
theorem rtxt_ev (s : ByteArray) (b : Bool) : Ev (fun k => octets_Reader_Text.f k s b) (text s b) := ⟨8, fun k hk => rText_eq k s b hk⟩
theorem take_ev (s : ByteArray) (b : Bool) (n : Int) : Ev (fun k => octets_Reader_Take.f k s b n) (take s b n) := Ev.succ (G := fun _ => some (take s b n)) (fun k => Take_eq k s b n) (Ev.pure _)
/-- No frame, and why. -/
def Z (e : Int) : Int × Int × List ByteArray × ByteArray × List ByteArray × Int := (0, 0, [], ⟨#[]⟩, [], e)
noncomputable def endR (x : ByteArray) (bad : Bool) (kind dt : Int) (ids : List ByteArray) (bits : ByteArray) (texts : List ByteArray) : Int × Int × List ByteArray × ByteArray × List ByteArray × Int :=
  if (!bad && ((x.size : Int) == 0)) = true then (if rightB kind dt ids bits texts = true then (kind, dt, ids, bits, texts, 0) else Z 2) else Z 2
theorem end_ev (x : ByteArray) (bad : Bool) (kind dt : Int) (ids : List ByteArray) (bits : ByteArray) (texts : List ByteArray) (hi : ids.length ≤ 9223372036854775807) (ht : texts.length ≤ 9223372036854775807) :
    Ev (fun k => frame_Decode.j2 k x bad kind dt ids bits texts) (endR x bad kind dt ids bits texts) := by
  unfold endR
  refine Ev.succ (fun k => frame_Decode.j2.eq_2 x bad kind dt ids bits texts k) ?_
  simp only [rEnd_eq, Option.bind_some]
  by_cases c : (!bad && ((x.size : Int) == 0)) = true
  · simp only [c, if_true]
    refine Ev.bind (right_ev kind dt ids bits texts hi ht) ?_
    cases rightB kind dt ids bits texts
    · exact Ev.pure _
    · exact Ev.pure _
  · simp only [c, if_false]
    exact Ev.pure _
theorem end_cases (x : ByteArray) (bad : Bool) (kind dt : Int) (ids : List ByteArray) (bits : ByteArray) (texts : List ByteArray) :
    endR x bad kind dt ids bits texts = Z 2 ∨ (bad = false ∧ x = ⟨#[]⟩ ∧ rightB kind dt ids bits texts = true ∧ endR x bad kind dt ids bits texts = (kind, dt, ids, bits, texts, 0)) := by
  unfold endR
  by_cases c : (!bad && ((x.size : Int) == 0)) = true
  · rw [if_pos c]
    cases h : rightB kind dt ids bits texts
    · exact Or.inl rfl
    · simp only [Bool.and_eq_true, Bool.not_eq_true', beq_iff_eq] at c
      refine Or.inr ⟨c.1, ?_, rfl, rfl⟩
      have hz : x.size = 0 := by omega
      apply ba_ext
      rw [size_len] at hz
      rw [List.length_eq_zero_iff.1 hz]
  · rw [if_neg c]
    exact Or.inl rfl
theorem end_ok {kind dt : Int} {ids : List ByteArray} {bits : ByteArray} {texts : List ByteArray} (h : rightB kind dt ids bits texts = true) (more : ByteArray) :
    endR more false kind dt ids bits texts = if more.size = 0 then (kind, dt, ids, bits, texts, 0) else Z 2 := by
  unfold endR
  rw [h]
  by_cases c : more.size = 0
  · simp [c]
  · rw [if_neg c, if_neg]
    intro z
    simp only [Bool.not_false, Bool.true_and, beq_iff_eq] at z
    omega
/-! texts -/
theorem l0_ev : ∀ (n : Nat) (x : ByteArray) (bad : Bool) (texts : List ByteArray), texts.length + n ≤ 255 →
    ∃ r, Ev (fun k => frame_Decode.l0 k (n : Int) x bad 4 0 ⟨#[]⟩ texts) r ∧ (r = Z 2 ∨ (bad = false ∧ ∃ l, l.length = n ∧ x = catT l ∧ rightB 4 0 [] ⟨#[]⟩ (texts ++ l) = true ∧ r = (4, 0, [], ⟨#[]⟩, texts ++ l, 0)))
  | 0, x, bad, texts, h => by
    refine ⟨_, Ev.succ (G := fun k => frame_Decode.j2 k x bad 4 0 [] ⟨#[]⟩ texts) (fun k => ?_) (end_ev x bad 4 0 [] ⟨#[]⟩ texts (by simp) (by omega)), ?_⟩
    · simp only [frame_Decode.l0]
      rw [if_neg (by decide)]
    · rcases end_cases x bad 4 0 [] ⟨#[]⟩ texts with e | ⟨e1, e2, e3, e4⟩
      · exact Or.inl e
      · exact Or.inr ⟨e1, [], rfl, e2, by rwa [List.append_nil], by rw [List.append_nil]; exact e4⟩
  | n + 1, x, true, texts, h => by
    refine ⟨_, Ev.succ (G := fun k => frame_Decode.j2 k x true 4 0 [] ⟨#[]⟩ texts) (fun k => ?_) (end_ev x true 4 0 [] ⟨#[]⟩ texts (by simp) (by omega)), Or.inl ?_⟩
    · simp only [frame_Decode.l0, octets_Reader_Good.f, Option.bind_some]
      rw [if_pos (by omega)]
      simp
    · rcases end_cases x true 4 0 [] ⟨#[]⟩ texts with e | ⟨e1, e2, e3, e4⟩
      · exact e
      · cases e1
  | n + 1, x, false, texts, h => by
    rcases e : text x false with ⟨t, x2, b2⟩
    obtain ⟨r, hr, hc⟩ := l0_ev n x2 b2 (texts ++ [t]) (by simp; omega)
    refine ⟨r, Ev.succ (G := fun k => (octets_Reader_Text.f k x false).bind fun bt => if texts.length < 8796093022208 then frame_Decode.l0 k (n : Int) bt.2.1 bt.2.2 4 0 ⟨#[]⟩ (texts ++ [bt.1]) else none) (fun k => ?_) (Ev.bind (rtxt_ev x false) ?_), ?_⟩
    · have e1 : wrap64 (((n + 1 : Nat) : Int) - 1) = (n : Int) := by rw [w64 (by omega) (by omega)]; omega
      simp only [frame_Decode.l0, octets_Reader_Good.f, Option.bind_some, e1]
      rw [if_pos (by omega)]
      simp
    · simp only [show texts.length < 8796093022208 by omega, if_true, e]
      exact hr
    · rcases hc with hc | ⟨hb, l, h1, h2, h3, h4⟩
      · exact Or.inl hc
      · subst hb
        obtain ⟨_, hs, _⟩ := text_sound e
        refine Or.inr ⟨rfl, t :: l, by simp [h1], by rw [hs, h2]; rfl, ?_, ?_⟩
        · rw [List.append_assoc] at h3
          exact h3
        · rw [List.append_assoc] at h4
          exact h4
theorem l0_back : ∀ (l : List ByteArray) (more : ByteArray) (texts : List ByteArray) (r : Int × Int × List ByteArray × ByteArray × List ByteArray × Int), (∀ i, i < l.length → (at_ l i).size ≤ 65535) → texts.length + l.length ≤ 255 →
    Ev (fun k => frame_Decode.j2 k more false 4 0 [] ⟨#[]⟩ (texts ++ l)) r → Ev (fun k => frame_Decode.l0 k (l.length : Int) (catT l ++ more) false 4 0 ⟨#[]⟩ texts) r
  | [], more, texts, r, hl, hn, h => by
    rw [List.append_nil] at h
    refine Ev.succ (fun k => ?_) h
    simp only [frame_Decode.l0]
    rw [if_neg (by decide), show catT [] ++ more = more from nil_app more]
  | t :: l, more, texts, r, hl, hn, h => by
    have h0 := hl 0 (by simp)
    rw [at_cons_zero] at h0
    have ih := l0_back l more (texts ++ [t]) r (fun i hi => by have := hl (i + 1) (by simp; omega); rwa [at_cons_succ] at this) (by simp at hn ⊢; omega) (by rw [List.append_assoc]; exact h)
    have e : catT (t :: l) ++ more = lay t ++ (catT l ++ more) := app_assoc _ _ _
    rw [e]
    refine Ev.succ (G := fun k => (octets_Reader_Text.f k (lay t ++ (catT l ++ more)) false).bind fun bt => if texts.length < 8796093022208 then frame_Decode.l0 k (l.length : Int) bt.2.1 bt.2.2 4 0 ⟨#[]⟩ (texts ++ [bt.1]) else none) (fun k => ?_) (Ev.bind (rtxt_ev _ false) ?_)
    · have e1 : wrap64 ((((t :: l).length : Nat) : Int) - 1) = (l.length : Int) := by simp at hn ⊢; rw [w64 (by omega) (by omega)]
      simp only [frame_Decode.l0, octets_Reader_Good.f, Option.bind_some, e1]
      rw [if_pos (by simp only [List.length_cons]; omega)]
      simp
    · simp only [show texts.length < 8796093022208 by simp at hn; omega, if_true, text_lay t _ h0]
      exact ih
/-! ids -/
theorem fin_ev (kind : Int) (x : ByteArray) (bad : Bool) (ids : List ByteArray) (h : ids.length ≤ 255) :
    ∃ r, Ev (fun k => if kind = 2 then (octets_Reader_Text.f k x bad).bind fun bt => frame_Decode.j2 k bt.2.1 bt.2.2 kind 0 ids bt.1 [] else frame_Decode.j2 k x bad kind 0 ids ⟨#[]⟩ []) r ∧
      (r = Z 2 ∨ (bad = false ∧ ∃ bits, (kind = 2 → x = lay bits) ∧ (kind ≠ 2 → x = ⟨#[]⟩) ∧ rightB kind 0 ids bits [] = true ∧ r = (kind, 0, ids, bits, [], 0))) := by
  by_cases k2 : kind = 2
  · simp only [k2, if_true]
    rcases e : text x bad with ⟨t, x2, b2⟩
    refine ⟨endR x2 b2 2 0 ids t [], Ev.bind (rtxt_ev x bad) ?_, ?_⟩
    · rw [e]
      exact end_ev x2 b2 2 0 ids t [] (by omega) (by simp)
    · rcases end_cases x2 b2 2 0 ids t [] with z | ⟨e1, e2, e3, e4⟩
      · exact Or.inl z
      · subst e1
        obtain ⟨hb, hs, _⟩ := text_sound e
        refine Or.inr ⟨hb, t, fun _ => by rw [hs, e2, app_nil], fun z => absurd rfl z, e3, e4⟩
  · refine ⟨endR x bad kind 0 ids ⟨#[]⟩ [], by (simp only [k2, if_false]; exact end_ev x bad kind 0 ids ⟨#[]⟩ [] (by omega) (by simp)), ?_⟩
    rcases end_cases x bad kind 0 ids ⟨#[]⟩ [] with z | ⟨e1, e2, e3, e4⟩
    · exact Or.inl z
    · exact Or.inr ⟨e1, ⟨#[]⟩, fun z => absurd z k2, fun _ => e2, e3, e4⟩
theorem l1_ev (kind : Int) : ∀ (n : Nat) (x : ByteArray) (bad : Bool) (ids : List ByteArray), ids.length + n ≤ 255 →
    ∃ r, Ev (fun k => frame_Decode.l1 k (n : Int) x bad kind 0 ids ⟨#[]⟩) r ∧ (r = Z 2 ∨ (bad = false ∧ ∃ l bits, l.length = n ∧ (kind = 2 → x = catI l ++ lay bits) ∧ (kind ≠ 2 → x = catI l) ∧ rightB kind 0 (ids ++ l) bits [] = true ∧ r = (kind, 0, ids ++ l, bits, [], 0)))
  | 0, x, bad, ids, h => by
    obtain ⟨r, hr, hc⟩ := fin_ev kind x bad ids (by omega)
    refine ⟨r, Ev.succ (fun k => ?_) hr, ?_⟩
    · simp only [frame_Decode.l1]
      rw [if_neg (by decide)]
    · rcases hc with hc | ⟨hb, bits, h1, h2, h3, h4⟩
      · exact Or.inl hc
      · exact Or.inr ⟨hb, [], bits, rfl, fun z => by rw [h1 z]; exact (nil_app _).symm, h2, by rwa [List.append_nil], by rw [List.append_nil]; exact h4⟩
  | n + 1, x, true, ids, h => by
    obtain ⟨r, hr, hc⟩ := fin_ev kind x true ids (by omega)
    refine ⟨r, Ev.succ (fun k => ?_) hr, ?_⟩
    · simp only [frame_Decode.l1, octets_Reader_Good.f, Option.bind_some]
      rw [if_pos (by omega)]
      simp
    · rcases hc with hc | ⟨hb, bits, h1, h2, h3, h4⟩
      · exact Or.inl hc
      · cases hb
  | n + 1, x, false, ids, h => by
    rcases e : take x false 32 with ⟨t, x2, b2⟩
    obtain ⟨r, hr, hc⟩ := l1_ev kind n x2 b2 (ids ++ [t]) (by simp; omega)
    refine ⟨r, Ev.succ (G := fun k => (octets_Reader_Take.f k x false 32).bind fun bt => if ids.length < 8796093022208 then frame_Decode.l1 k (n : Int) bt.2.1 bt.2.2 kind 0 (ids ++ [bt.1]) ⟨#[]⟩ else none) (fun k => ?_) (Ev.bind (take_ev x false 32) ?_), ?_⟩
    · have e1 : wrap64 (((n + 1 : Nat) : Int) - 1) = (n : Int) := by rw [w64 (by omega) (by omega)]; omega
      simp only [frame_Decode.l1, octets_Reader_Good.f, Option.bind_some, e1]
      rw [if_pos (by omega)]
      simp
    · simp only [show ids.length < 8796093022208 by omega, if_true, e]
      exact hr
    · rcases hc with hc | ⟨hb, l, bits, h1, h2, h3, h4, h5⟩
      · exact Or.inl hc
      · subst hb
        obtain ⟨_, hs, _⟩ := take_sound e
        refine Or.inr ⟨rfl, t :: l, bits, by simp [h1], fun z => ?_, fun z => ?_, ?_, ?_⟩
        · rw [hs, h2 z]
          exact (app_assoc _ _ _).symm
        · rw [hs, h3 z]
          rfl
        · rw [List.append_assoc] at h4
          exact h4
        · rw [List.append_assoc] at h5
          exact h5
theorem l1_back (kind : Int) : ∀ (l : List ByteArray) (more : ByteArray) (ids : List ByteArray) (r : Int × Int × List ByteArray × ByteArray × List ByteArray × Int), (∀ i, i < l.length → (at_ l i).size = 32) → ids.length + l.length ≤ 255 →
    Ev (fun k => if kind = 2 then (octets_Reader_Text.f k more false).bind fun bt => frame_Decode.j2 k bt.2.1 bt.2.2 kind 0 (ids ++ l) bt.1 [] else frame_Decode.j2 k more false kind 0 (ids ++ l) ⟨#[]⟩ []) r → Ev (fun k => frame_Decode.l1 k (l.length : Int) (catI l ++ more) false kind 0 ids ⟨#[]⟩) r
  | [], more, ids, r, hl, hn, h => by
    rw [List.append_nil] at h
    refine Ev.succ (fun k => ?_) h
    simp only [frame_Decode.l1]
    rw [if_neg (by decide), show catI [] ++ more = more from nil_app more]
  | t :: l, more, ids, r, hl, hn, h => by
    have h0 := hl 0 (by simp)
    rw [at_cons_zero] at h0
    have ih := l1_back kind l more (ids ++ [t]) r (fun i hi => by have := hl (i + 1) (by simp; omega); rwa [at_cons_succ] at this) (by simp at hn ⊢; omega) (by rw [List.append_assoc]; exact h)
    have e : catI (t :: l) ++ more = t ++ (catI l ++ more) := app_assoc _ _ _
    rw [e]
    refine Ev.succ (G := fun k => (octets_Reader_Take.f k (t ++ (catI l ++ more)) false 32).bind fun bt => if ids.length < 8796093022208 then frame_Decode.l1 k (l.length : Int) bt.2.1 bt.2.2 kind 0 (ids ++ [bt.1]) ⟨#[]⟩ else none) (fun k => ?_) (Ev.bind (take_ev _ false 32) ?_)
    · have e1 : wrap64 ((((t :: l).length : Nat) : Int) - 1) = (l.length : Int) := by simp at hn ⊢; rw [w64 (by omega) (by omega)]
      simp only [frame_Decode.l1, octets_Reader_Good.f, Option.bind_some, e1]
      rw [if_pos (by simp only [List.length_cons]; omega)]
      simp
    · simp only [show ids.length < 8796093022208 by simp at hn; omega, if_true, take_app t _ 32 (by omega)]
      exact ih
/-! the whole -/
theorem decode_long (s : ByteArray) (hs : s.size > 65535) : Ev (fun k => frame_Decode.f k s) (Z 3) := by
  unfold frame_Decode.f
  simp only [show (s.size : Int) > 65535 by omega, if_true]
  exact Ev.pure _
theorem decode_sound (s : ByteArray) (hs : s.size ≤ 65535) : ∃ r, Ev (fun k => frame_Decode.f k s) r ∧
    (r = Z 2 ∨ ∃ kind dt ids bits texts, rightB kind dt ids bits texts = true ∧ enc kind dt ids bits texts = s ∧ r = (kind, dt, ids, bits, texts, 0)) := by
  unfold frame_Decode.f
  simp only [show ¬ (s.size : Int) > 65535 by omega, if_false, octets_Read.f, Option.bind_some]
  have c1 := num1_range s false
  have c2 := num1_range (take s false 1).2.1 (take s false 1).2.2
  have hb := byte_ev s false
  have hb2 := byte_ev (take s false 1).2.1 (take s false 1).2.2
  generalize ec : num1 s false = c at *
  rcases et : take s false 1 with ⟨a, s1, b1⟩
  rw [et] at hb hb2 c2
  simp only at hb hb2 c2
  generalize en : num1 s1 b1 = n at *
  rcases et2 : take s1 b1 1 with ⟨a2, s2, b2⟩
  rw [et2] at hb2
  simp only at hb2
  have joined : b2 = false → s = two c n ++ s2 := by
    intro hb2
    subst hb2
    obtain ⟨hb1, h1⟩ := byte_sound et2
    subst hb1
    obtain ⟨_, h2⟩ := byte_sound et
    rw [h2, ec, h1, en]
    unfold two
    rw [show c % 256 = c by omega, show n % 256 = n by omega, app_assoc]
  by_cases k5 : c = 5
  · rcases e : text s2 b2 with ⟨t, s3, b3⟩
    refine ⟨endR s3 b3 c n [] ⟨#[]⟩ [t], Ev.bind hb ?_, ?_⟩
    · simp only [k5, if_true]
      refine Ev.bind hb2 (Ev.bind (rtxt_ev s2 b2) ?_)
      rw [e]
      exact end_ev s3 b3 5 n [] ⟨#[]⟩ [t] (by simp) (by simp)
    · rcases end_cases s3 b3 c n [] ⟨#[]⟩ [t] with z | ⟨e1, e2, e3, e4⟩
      · exact Or.inl z
      · subst e1
        obtain ⟨hb2', hs2, _⟩ := text_sound e
        refine Or.inr ⟨c, n, [], ⟨#[]⟩, [t], e3, ?_, e4⟩
        rw [joined hb2', hs2, e2, app_nil]
        unfold enc
        rw [if_pos k5, at_cons_zero]
  · by_cases k4 : c = 4
    · obtain ⟨r, hr, hc⟩ := l0_ev n.toNat s2 b2 [] (by simp; omega)
      refine ⟨r, Ev.bind hb ?_, ?_⟩
      · simp only [k4, show ¬ (4 : Int) = 5 by decide, if_true, if_false]
        refine Ev.bind hb2 ?_
        rw [show ((n.toNat : Nat) : Int) = n by omega] at hr
        exact hr
      · rcases hc with hc | ⟨hb2', l, h1, h2, h3, h4⟩
        · exact Or.inl hc
        · refine Or.inr ⟨4, 0, [], ⟨#[]⟩, l, h3, ?_, h4⟩
          rw [joined hb2', h2]
          unfold enc
          rw [if_neg (by decide), if_pos rfl, k4, h1, show ((n.toNat : Nat) : Int) = n by omega]
    · obtain ⟨r, hr, hc⟩ := l1_ev c n.toNat s2 b2 [] (by simp; omega)
      refine ⟨r, Ev.bind hb ?_, ?_⟩
      · simp only [k4, k5, if_false]
        refine Ev.bind hb2 ?_
        rw [show ((n.toNat : Nat) : Int) = n by omega] at hr
        exact hr
      · rcases hc with hc | ⟨hb2', l, bits, h1, h2, h3, h4, h5⟩
        · exact Or.inl hc
        · refine Or.inr ⟨c, 0, l, bits, [], h4, ?_, h5⟩
          rw [joined hb2']
          unfold enc
          rw [if_neg k5, if_neg k4, h1, show ((n.toNat : Nat) : Int) = n by omega]
          by_cases k2 : c = 2
          · rw [if_pos k2, h2 k2, app_assoc]
          · rw [if_neg k2, h3 k2]
theorem take_one (c : Int) (h0 : 0 ≤ c) (h1 : c < 256) (more : ByteArray) : take (strOfNums [c % 256] ++ more) false 1 = (strOfNums [c % 256], more, false) := take_app _ _ _ (by rw [strOfNums_size]; rfl)
theorem num_one (c : Int) (h0 : 0 ≤ c) (h1 : c < 256) (more : ByteArray) : num1 (strOfNums [c % 256] ++ more) false = c := by
  unfold num1
  rw [take_one c h0 h1, bytesOf_nums _ (by intro x hx; simp at hx; omega), bv_one]
  omega
theorem decode_back {kind dt : Int} {ids : List ByteArray} {bits : ByteArray} {texts : List ByteArray} (h : rightB kind dt ids bits texts = true) (more : ByteArray) (hm : (enc kind dt ids bits texts ++ more).size ≤ 65535) :
    Ev (fun k => frame_Decode.f k (enc kind dt ids bits texts ++ more)) (if more.size = 0 then (kind, dt, ids, bits, texts, 0) else Z 2) := by
  unfold frame_Decode.f
  simp only [show ¬ ((enc kind dt ids bits texts ++ more).size : Int) > 65535 by omega, if_false, octets_Read.f, Option.bind_some]
  rw [← end_ok h more]
  have key : ∀ (n : Int) (rest : ByteArray), 0 ≤ kind → kind < 256 → 0 ≤ n → n < 256 → Ev (fun k => octets_Reader_Byte.f k (two kind n ++ rest) false) (kind, strOfNums [n % 256] ++ rest, false) ∧ Ev (fun k => octets_Reader_Byte.f k (strOfNums [n % 256] ++ rest) false) (n, rest, false) := by
    intro n rest a b c d
    constructor
    · have := byte_ev (two kind n ++ rest) false
      unfold two at this ⊢
      rw [app_assoc, num_one kind a b, take_one kind a b] at this
      rw [app_assoc]
      exact this
    · have := byte_ev (strOfNums [n % 256] ++ rest) false
      rw [num_one n c d, take_one n c d] at this
      exact this
  have hr := h
  rcases right_cases h with ⟨k, rfl, rfl, rfl, ht, h1, h2⟩ | ⟨k, d0, d1, rfl, rfl, t, rfl, h1, h2⟩ | ⟨k1, k2, rfl, rfl, hi, h1, h2, h3⟩
  · have ee : enc kind 0 [] ⟨#[]⟩ texts ++ more = two kind texts.length ++ (catT texts ++ more) := by
      unfold enc
      rw [if_neg (by omega), if_pos k, app_assoc]
    rw [ee]
    obtain ⟨b1, b2⟩ := key texts.length (catT texts ++ more) (by omega) (by omega) (by omega) (by omega)
    refine Ev.bind b1 ?_
    simp only [k, show ¬ (4 : Int) = 5 by decide, if_true, if_false]
    refine Ev.bind b2 (l0_back texts more [] _ (fun i hi => (ht i hi).2) (by simp; omega) ?_)
    exact end_ev more false 4 0 [] ⟨#[]⟩ texts (by simp) (by omega)
  · have ee : enc kind dt [] ⟨#[]⟩ [t] ++ more = two kind dt ++ (lay t ++ more) := by
      unfold enc
      rw [if_pos k, at_cons_zero, app_assoc]
    rw [ee]
    obtain ⟨b1, b2⟩ := key dt (lay t ++ more) (by omega) (by omega) (by omega) (by omega)
    refine Ev.bind b1 ?_
    simp only [k, if_true]
    refine Ev.bind b2 (Ev.bind (rtxt_ev _ false) ?_)
    rw [text_lay t more h2]
    exact end_ev more false 5 dt [] ⟨#[]⟩ [t] (by simp) (by simp)
  · by_cases kk : kind = 2
    · have ee : enc kind 0 ids bits [] ++ more = two kind ids.length ++ (catI ids ++ (lay bits ++ more)) := by
        unfold enc
        rw [if_neg (by omega), if_neg (by omega), if_pos kk]
        simp only [app_assoc]
      rw [ee]
      obtain ⟨b1, b2⟩ := key ids.length (catI ids ++ (lay bits ++ more)) (by omega) (by omega) (by omega) (by omega)
      refine Ev.bind b1 ?_
      simp only [show ¬ kind = 5 by omega, show ¬ kind = 4 by omega, if_false]
      refine Ev.bind b2 (l1_back kind ids (lay bits ++ more) [] _ (fun i hi' => (hi i hi').1) (by simp; omega) ?_)
      simp only [kk, if_true, List.nil_append]
      refine Ev.bind (rtxt_ev _ false) ?_
      rw [text_lay bits more (by omega)]
      exact end_ev more false 2 0 ids bits [] (by omega) (by simp)
    · have hbits := h3 kk
      subst hbits
      have ee : enc kind 0 ids ⟨#[]⟩ [] ++ more = two kind ids.length ++ (catI ids ++ more) := by
        unfold enc
        rw [if_neg (by omega), if_neg (by omega), if_neg kk]
        simp only [app_assoc]
      rw [ee]
      obtain ⟨b1, b2⟩ := key ids.length (catI ids ++ more) (by omega) (by omega) (by omega) (by omega)
      refine Ev.bind b1 ?_
      simp only [show ¬ kind = 5 by omega, show ¬ kind = 4 by omega, if_false]
      refine Ev.bind b2 (l1_back kind ids more [] _ (fun i hi' => (hi i hi').1) (by simp; omega) ?_)
      simp only [kk, if_false, List.nil_append]
      exact end_ev more false kind 0 ids ⟨#[]⟩ [] (by omega) (by simp)
end Go.Proofs.Ytbiempnleljciaa.Frm
