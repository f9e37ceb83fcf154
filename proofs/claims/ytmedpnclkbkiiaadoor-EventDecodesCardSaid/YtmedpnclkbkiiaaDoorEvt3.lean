/-
  Events: what the program's Decode answers: a right event of which the bytes are these, or none.
  Conditions: none.
-/
import Derived.Test.YtmedpnclkbkiiaaDoorEvt1
import Derived.Test.YtmedpnclkbkiiaaDoorOct2
import Derived.Test.YtmedpnclkbkiiaaDoorPPx8
namespace Go.Proofs.YtmedpnclkbkiiaaDoor.Oct.Evt
open Go.RowKit Go.Proofs.YtmedpnclkbkiiaaDoor.PP Go.Proofs.YtmedpnclkbkiiaaDoorW.PrintWords Go.Proofs.YtmedpnclkbkiiaaDoorW.PrintLast Go.Proofs.YtmedpnclkbkiiaaDoorW.PrintMore
open Go.Proofs.YtmedpnclkbkiiaaDoor.Sha (ifs ifn)
set_option linter.unusedSimpArgs false
set_option linter.unusedVariables false

theorem take_sound {s a s2 : ByteArray} {b : Bool} {n : Int} (h : take s b n = (a, s2, false)) : b = false ∧ s = a ++ s2 ∧ (a.size : Int) = n := by
  unfold take at h
  by_cases c : b = true ∨ n < 0 ∨ n > (s.size : Int)
  · rw [if_pos c] at h
    simp at h
  · rw [if_neg c] at h
    simp only [Prod.mk.injEq] at h
    obtain ⟨h1, h2, _⟩ := h
    have hb : b = false := by
      cases b
      · rfl
      · exact absurd (Or.inl rfl) c
    have h0 : 0 ≤ n := by omega
    have h9 : n ≤ s.size := by omega
    refine ⟨hb, ?_, ?_⟩
    · apply bytesOf_inj
      rw [bytesOf_app, ← h1, ← h2, bytesOf_ext, bytesOf_ext]
      rw [List.drop_zero, show List.take s.size (bytesOf s) = bytesOf s from List.take_of_length_le (by rw [bytesOf_length]; exact Nat.le_refl _), List.take_append_drop]
    · rw [← h1]
      have : (s.extract 0 n.toNat).size = n.toNat := by simp; omega
      omega
theorem bytes_two {a : ByteArray} (h : a.size = 2) : ∃ x y : Int, bytesOf a = [x, y] ∧ 0 ≤ x ∧ x < 256 ∧ 0 ≤ y ∧ y < 256 := by
  have hl := bytesOf_length a
  rw [h] at hl
  match hb : bytesOf a, hl with
  | [x, y], _ =>
    have m1 := bytesOf_mem a x (by rw [hb]; simp)
    have m2 := bytesOf_mem a y (by rw [hb]; simp)
    exact ⟨x, y, rfl, m1.1, m1.2, m2.1, m2.2⟩
theorem text_sound {s t s2 : ByteArray} {b : Bool} (h : text s b = (t, s2, false)) : b = false ∧ s = lay t ++ s2 ∧ t.size ≤ 65535 := by
  unfold text at h
  rcases e : take s b 2 with ⟨a, s1, b1⟩
  rw [e] at h
  simp only at h
  obtain ⟨hb1, hs1, hn⟩ := take_sound h
  subst hb1
  obtain ⟨hb, hs, h2⟩ := take_sound e
  obtain ⟨x, y, hxy, x0, x1, y0, y1⟩ := bytes_two (a := a) (by omega)
  rw [hxy] at hn
  have hv : bv 0 [x, y] = x * 256 + y := by simp [bv]
  rw [hv] at hn
  have ha : a = strOfNums [(t.size : Int) / 256, (t.size : Int) % 256] := by
    rw [← nums_bytes a, hxy, show (t.size : Int) / 256 = x by omega, show (t.size : Int) % 256 = y by omega]
  refine ⟨hb, ?_, by omega⟩
  rw [hs, hs1, ha]
  unfold lay
  rw [app_assoc]
/-- One byte's number. -/
def num1 (s : ByteArray) (b : Bool) : Int := bv 0 (bytesOf (take s b 1).1)
theorem num1_range (s : ByteArray) (b : Bool) : 0 ≤ num1 s b ∧ num1 s b < 256 := by
  unfold num1
  have hl := take_size s b 1 1 (by decide)
  have hl2 := bytesOf_length (take s b 1).1
  have hm := bytesOf_mem (take s b 1).1
  match e : bytesOf (take s b 1).1 with
  | [] => simp [bv]
  | [x] =>
    have := hm x (by rw [e]; simp)
    simp only [bv, List.foldl]
    omega
  | _ :: _ :: _ =>
    rw [e] at hl2
    simp at hl2
    omega
theorem byte_sound {s a s2 : ByteArray} {b : Bool} (h : take s b 1 = (a, s2, false)) : b = false ∧ s = strOfNums [num1 s b] ++ s2 := by
  obtain ⟨hb, hs, h1⟩ := take_sound h
  have e : num1 s b = bv 0 (bytesOf a) := by unfold num1; rw [h]
  have hl := bytesOf_length a
  refine ⟨hb, ?_⟩
  rw [e]
  match hx : bytesOf a, hl with
  | [x], _ =>
    have hv : bv 0 [x] = x := bv_one x
    rw [hv, ← hx, nums_bytes]
    exact hs
  | [], z => simp at z; omega
  | _ :: _ :: _, z => simp at z; omega
theorem byte_ev (s : ByteArray) (b : Bool) : Sha.Ev (fun k => octets_Reader_Byte.f k s b) (num1 s b, (take s b 1).2.1, (take s b 1).2.2) := ⟨8, fun k hk => rByte_eq k s b hk⟩
theorem rtxt_ev (s : ByteArray) (b : Bool) : Sha.Ev (fun k => octets_Reader_Text.f k s b) (text s b) := ⟨8, fun k hk => rText_eq k s b hk⟩
theorem take_ev (s : ByteArray) (b : Bool) (n : Int) : Sha.Ev (fun k => octets_Reader_Take.f k s b n) (take s b n) := Sha.Ev.succ (G := fun _ => some (take s b n)) (fun k => Take_eq k s b n) (Sha.Ev.pure _)
abbrev Res := Int × ByteArray × List ByteArray × ByteArray × ByteArray × Int
/-- No event, and why. -/
def Z (e : Int) : Res := (0, ⟨#[]⟩, [], ⟨#[]⟩, ⟨#[]⟩, e)
noncomputable def endR (x : ByteArray) (bad : Bool) (kind : Int) (a : ByteArray) (ps : List ByteArray) (b s : ByteArray) : Res :=
  if (!bad && ((x.size : Int) == 0)) = true then (if rightB kind a ps b s = true then (kind, a, ps, b, s, 0) else Z 2) else Z 2
noncomputable def finR (x : ByteArray) (bad : Bool) (kind : Int) (a : ByteArray) (ps : List ByteArray) : Res :=
  endR (text (text x bad).2.1 (text x bad).2.2).2.1 (text (text x bad).2.1 (text x bad).2.2).2.2 kind a ps (text x bad).1 (text (text x bad).2.1 (text x bad).2.2).1
theorem fin_ev (x : ByteArray) (bad : Bool) (kind : Int) (a : ByteArray) (ps : List ByteArray) (b0 s0 : ByteArray) (hl : ps.length ≤ 9223372036854775807) :
    Sha.Ev (fun k => event_Decode.j1 k x bad kind a ps b0 s0) (finR x bad kind a ps) := by
  refine Sha.Ev.succ (fun k => event_Decode.j1.eq_2 x bad kind a ps b0 s0 k) ?_
  refine Sha.Ev.bind (rtxt_ev x bad) (Sha.Ev.bind (rtxt_ev _ _) ?_)
  unfold finR endR
  simp only [rEnd_eq, Option.bind_some]
  by_cases c : (!(text (text x bad).2.1 (text x bad).2.2).2.2 && (((text (text x bad).2.1 (text x bad).2.2).2.1.size : Int) == 0)) = true
  · simp only [c, if_true]
    refine Sha.Ev.bind (right_ev kind a ps _ _ hl) ?_
    cases rightB kind a ps (text x bad).1 (text (text x bad).2.1 (text x bad).2.2).1
    · exact Sha.Ev.pure _
    · exact Sha.Ev.pure _
  · simp only [c, if_false]
    exact Sha.Ev.pure _
theorem fin_cases (x : ByteArray) (bad : Bool) (kind : Int) (a : ByteArray) (ps : List ByteArray) :
    finR x bad kind a ps = Z 2 ∨ (bad = false ∧ ∃ b s, x = lay b ++ lay s ∧ rightB kind a ps b s = true ∧ finR x bad kind a ps = (kind, a, ps, b, s, 0)) := by
  unfold finR
  rcases e1 : text x bad with ⟨b, x1, b1⟩
  simp only
  rcases e2 : text x1 b1 with ⟨s, x2, b2⟩
  simp only
  unfold endR
  by_cases c : (!b2 && ((x2.size : Int) == 0)) = true
  · rw [if_pos c]
    cases h : rightB kind a ps b s
    · exact Or.inl rfl
    · simp only [Bool.and_eq_true, Bool.not_eq_true', beq_iff_eq] at c
      have hz : x2.size = 0 := by omega
      have hx2 : x2 = ⟨#[]⟩ := by
        apply ba_ext
        rw [size_len] at hz
        rw [List.length_eq_zero_iff.1 hz]
      obtain ⟨c1, _⟩ := c
      subst c1
      obtain ⟨hb1, hs1, _⟩ := text_sound e2
      subst hb1
      obtain ⟨hb, hs, _⟩ := text_sound e1
      refine Or.inr ⟨hb, b, s, ?_, h, rfl⟩
      rw [hs, hs1, hx2, app_nil]
  · rw [if_neg c]
    exact Or.inl rfl
theorem fin_ok {kind : Int} {a : ByteArray} {ps : List ByteArray} {b s : ByteArray} (h : rightB kind a ps b s = true) : finR (lay b ++ lay s) false kind a ps = (kind, a, ps, b, s, 0) := by
  obtain ⟨_, _, h3, h4, h5, h6, h7⟩ := right_has h
  have e1 := text_lay b (lay s) (by omega)
  have e2 := text_lay s ⟨#[]⟩ h6
  rw [app_nil] at e2
  unfold finR
  simp only [e1, e2]
  unfold endR
  rw [h]
  rfl
/-! the parents -/
theorem l0_ev (kind : Int) (a b0 s0 : ByteArray) : ∀ (n : Nat) (x : ByteArray) (bad : Bool) (ps : List ByteArray), ps.length + n ≤ 255 →
    ∃ r, Sha.Ev (fun k => event_Decode.l0 k (n : Int) x bad kind a ps b0 s0) r ∧ (r = Z 2 ∨ (bad = false ∧ ∃ l b s, l.length = n ∧ x = catI l ++ (lay b ++ lay s) ∧ rightB kind a (ps ++ l) b s = true ∧ r = (kind, a, ps ++ l, b, s, 0)))
  | 0, x, bad, ps, h => by
    refine ⟨_, Sha.Ev.succ (G := fun k => event_Decode.j1 k x bad kind a ps b0 s0) (fun k => ?_) (fin_ev x bad kind a ps b0 s0 (by omega)), ?_⟩
    · simp only [event_Decode.l0]
      rw [if_neg (by decide)]
    · rcases fin_cases x bad kind a ps with e | ⟨e1, b, s, e2, e3, e4⟩
      · exact Or.inl e
      · exact Or.inr ⟨e1, [], b, s, rfl, by rw [e2]; exact (nil_app _).symm, by rwa [List.append_nil], by rw [List.append_nil]; exact e4⟩
  | n + 1, x, true, ps, h => by
    refine ⟨_, Sha.Ev.succ (G := fun k => event_Decode.j1 k x true kind a ps b0 s0) (fun k => ?_) (fin_ev x true kind a ps b0 s0 (by omega)), Or.inl ?_⟩
    · simp only [event_Decode.l0, octets_Reader_Good.f, Option.bind_some]
      rw [if_pos (by omega)]
      simp
    · rcases fin_cases x true kind a ps with e | ⟨e1, _⟩
      · exact e
      · cases e1
  | n + 1, x, false, ps, h => by
    rcases e : take x false 32 with ⟨t, x2, b2⟩
    obtain ⟨r, hr, hc⟩ := l0_ev kind a b0 s0 n x2 b2 (ps ++ [t]) (by simp; omega)
    refine ⟨r, Sha.Ev.succ (G := fun k => (octets_Reader_Take.f k x false 32).bind fun bt => if ps.length < 8796093022208 then event_Decode.l0 k (n : Int) bt.2.1 bt.2.2 kind a (ps ++ [bt.1]) b0 s0 else none) (fun k => ?_) (Sha.Ev.bind (take_ev x false 32) ?_), ?_⟩
    · have e1 : wrap64 (((n + 1 : Nat) : Int) - 1) = (n : Int) := by rw [w64 (by omega) (by omega)]; omega
      simp only [event_Decode.l0, octets_Reader_Good.f, Option.bind_some, e1]
      rw [if_pos (by omega)]
      simp
    · simp only [show ps.length < 8796093022208 by omega, if_true, e]
      exact hr
    · rcases hc with hc | ⟨hb, l, b, s, h1, h2, h4, h5⟩
      · exact Or.inl hc
      · subst hb
        obtain ⟨_, hs, _⟩ := take_sound e
        refine Or.inr ⟨rfl, t :: l, b, s, by simp [h1], ?_, ?_, ?_⟩
        · rw [hs, h2]
          exact (app_assoc _ _ _).symm
        · rw [List.append_assoc] at h4
          exact h4
        · rw [List.append_assoc] at h5
          exact h5
theorem l0_back (kind : Int) (a b0 s0 : ByteArray) : ∀ (l : List ByteArray) (more : ByteArray) (ps : List ByteArray) (r : Res), (∀ i, i < l.length → (at_ l i).size = 32) → ps.length + l.length ≤ 255 →
    Sha.Ev (fun k => event_Decode.j1 k more false kind a (ps ++ l) b0 s0) r → Sha.Ev (fun k => event_Decode.l0 k (l.length : Int) (catI l ++ more) false kind a ps b0 s0) r
  | [], more, ps, r, hl, hn, h => by
    rw [List.append_nil] at h
    refine Sha.Ev.succ (fun k => ?_) h
    simp only [event_Decode.l0]
    rw [if_neg (by decide), show catI [] ++ more = more from nil_app more]
  | t :: l, more, ps, r, hl, hn, h => by
    have h0 := hl 0 (by simp)
    rw [at_cons_zero] at h0
    have ih := l0_back kind a b0 s0 l more (ps ++ [t]) r (fun i hi => by have := hl (i + 1) (by simp; omega); rwa [at_cons_succ] at this) (by simp at hn ⊢; omega) (by rw [List.append_assoc]; exact h)
    have e : catI (t :: l) ++ more = t ++ (catI l ++ more) := app_assoc _ _ _
    rw [e]
    refine Sha.Ev.succ (G := fun k => (octets_Reader_Take.f k (t ++ (catI l ++ more)) false 32).bind fun bt => if ps.length < 8796093022208 then event_Decode.l0 k (l.length : Int) bt.2.1 bt.2.2 kind a (ps ++ [bt.1]) b0 s0 else none) (fun k => ?_) (Sha.Ev.bind (take_ev _ false 32) ?_)
    · have e1 : wrap64 ((((t :: l).length : Nat) : Int) - 1) = (l.length : Int) := by simp at hn ⊢; rw [w64 (by omega) (by omega)]
      simp only [event_Decode.l0, octets_Reader_Good.f, Option.bind_some, e1]
      rw [if_pos (by simp only [List.length_cons]; omega)]
      simp
    · simp only [show ps.length < 8796093022208 by simp at hn; omega, if_true, take_app t _ 32 (by omega)]
      exact ih
/-! the whole -/
theorem enc_eq (kind : Int) (a : ByteArray) (ps : List ByteArray) (b s : ByteArray) : enc kind a ps b s = one kind ++ (lay a ++ (one ps.length ++ (catI ps ++ (lay b ++ lay s)))) := by
  unfold enc cont
  simp only [app_assoc]
theorem decode_sound (s : ByteArray) : ∃ r, Sha.Ev (fun k => event_Decode.f k s) r ∧
    (r = Z 2 ∨ ∃ kind a ps b g, rightB kind a ps b g = true ∧ enc kind a ps b g = s ∧ r = (kind, a, ps, b, g, 0)) := by
  unfold event_Decode.f
  simp only [octets_Read.f, Option.bind_some]
  have c1 := num1_range s false
  have hb := byte_ev s false
  generalize ec : num1 s false = c at *
  rcases et : take s false 1 with ⟨y, s1, b1⟩
  rw [et] at hb
  simp only at hb
  rcases ea : text s1 b1 with ⟨a, s2, b2⟩
  have c2 := num1_range s2 b2
  have hb2 := byte_ev s2 b2
  generalize en : num1 s2 b2 = n at *
  rcases et2 : take s2 b2 1 with ⟨y2, s3, b3⟩
  rw [et2] at hb2
  simp only at hb2
  have joined : b3 = false → s = one c ++ (lay a ++ (one n ++ s3)) := by
    intro hb3
    subst hb3
    obtain ⟨hb2', h1⟩ := byte_sound et2
    subst hb2'
    obtain ⟨hb1', h2, _⟩ := text_sound ea
    subst hb1'
    obtain ⟨_, h3⟩ := byte_sound et
    rw [h3, ec, h2, h1, en]
    unfold one
    rw [show c % 256 = c by omega, show n % 256 = n by omega]
  obtain ⟨r, hr, hc⟩ := l0_ev c a ⟨#[]⟩ ⟨#[]⟩ n.toNat s3 b3 [] (by simp; omega)
  refine ⟨r, Sha.Ev.bind hb (Sha.Ev.bind (rtxt_ev s1 b1) ?_), ?_⟩
  · rw [ea]
    refine Sha.Ev.bind hb2 ?_
    rw [show ((n.toNat : Nat) : Int) = n by omega] at hr
    exact hr
  · rcases hc with hc | ⟨hb3, l, b, g, h1, h2, h4, h5⟩
    · exact Or.inl hc
    · refine Or.inr ⟨c, a, l, b, g, h4, ?_, h5⟩
      rw [joined hb3, enc_eq, h1, h2, show ((n.toNat : Nat) : Int) = n by omega]
theorem take_one (c : Int) (more : ByteArray) : take (one c ++ more) false 1 = (one c, more, false) := take_app _ _ _ (by rw [one_size]; rfl)
theorem num_one (c : Int) (h0 : 0 ≤ c) (h1 : c < 256) (more : ByteArray) : num1 (one c ++ more) false = c := by
  unfold num1
  rw [take_one c]
  unfold one
  rw [bytesOf_nums _ (by intro x hx; simp at hx; omega), bv_one]
  omega
theorem byte_one (c : Int) (h0 : 0 ≤ c) (h1 : c < 256) (more : ByteArray) : Sha.Ev (fun k => octets_Reader_Byte.f k (one c ++ more) false) (c, more, false) := by
  have := byte_ev (one c ++ more) false
  rw [num_one c h0 h1, take_one] at this
  exact this
theorem decode_back {kind : Int} {a : ByteArray} {ps : List ByteArray} {b s : ByteArray} (h : rightB kind a ps b s = true) : Sha.Ev (fun k => event_Decode.f k (enc kind a ps b s)) (kind, a, ps, b, s, 0) := by
  obtain ⟨k1, k2, h3, h4, h5, h6, h7⟩ := right_has h
  unfold event_Decode.f
  simp only [octets_Read.f, Option.bind_some]
  rw [enc_eq]
  refine Sha.Ev.bind (byte_one kind (by omega) (by omega) _) (Sha.Ev.bind (rtxt_ev _ false) ?_)
  rw [text_lay a _ (by omega)]
  refine Sha.Ev.bind (byte_one ps.length (by omega) (by omega) _) ?_
  refine l0_back kind a ⟨#[]⟩ ⟨#[]⟩ ps (lay b ++ lay s) [] _ h7 (by simp; omega) ?_
  rw [← fin_ok h]
  exact fin_ev (lay b ++ lay s) false kind a ps ⟨#[]⟩ ⟨#[]⟩ (by omega)
end Go.Proofs.YtmedpnclkbkiiaaDoor.Oct.Evt
