/-
  Frames: what the document's Decode answers: a right frame of which the bytes are these, or none.
  Conditions: none.
-/
import Derived.Test.YtbiempnleljciaaFrm3
import Derived.Test.YtbiempnleljciaaPPx10
import Derived.Test.YtbiempnleljciaaPPx11
namespace Go.Proofs.Ytbiempnleljciaa.Frm
open Go.RowKit Go.Proofs.Ytbiempnleljciaa.PP Go.Proofs.Ytbiempnleljciaa.Oct Go.Proofs.YtbiempnleljciaaW.PrintWords Go.Proofs.YtbiempnleljciaaW.PrintLast Go.Proofs.YtbiempnleljciaaW.PrintMore
set_option linter.unusedSimpArgs false
set_option linter.unusedVariables false

/-- The text that stands at a place, and where it ends. -/
def rtx (s : ByteArray) (p : Int) : ByteArray × Int :=
  if p < 0 ∨ p > (s.size : Int) - 2 then (⟨#[]⟩, -1)
  else if bv 0 (bytesOf (s.extract p.toNat (p + 2).toNat)) > (s.size : Int) - 2 - p then (⟨#[]⟩, -1)
  else (s.extract (p + 2).toNat (p + 2 + bv 0 (bytesOf (s.extract p.toNat (p + 2).toNat))).toNat, p + 2 + bv 0 (bytesOf (s.extract p.toNat (p + 2).toNat)))
theorem ext_size (s : ByteArray) (a b : Nat) (h : a ≤ b) (h2 : b ≤ s.size) : (s.extract a b).size = b - a := by simp; omega
theorem bv_two_range (a : ByteArray) (h : a.size = 2) : 0 ≤ bv 0 (bytesOf a) ∧ bv 0 (bytesOf a) ≤ 65535 := by
  obtain ⟨x, y, hxy, x0, x1, y0, y1⟩ := bytes_two h
  rw [hxy]
  simp only [bv, List.foldl]
  omega
theorem rtx_ev (s : ByteArray) (hs : s.size ≤ 65535) (p : Int) (h0 : -1 ≤ p) (h1 : p ≤ (s.size : Int)) : Ev (fun k => palaverref07_text.f k s p) (rtx s p) := by
  unfold palaverref07_text.f rtx
  have e1 : wrap64 ((s.size : Int) - 2) = (s.size : Int) - 2 := w64 (by omega) (by omega)
  by_cases c0 : p < 0
  · simp only [c0, if_true, true_or]
    refine Ev.succ (G := fun _ => some ((⟨#[]⟩ : ByteArray), (-1 : Int))) (fun k => ?_) (Ev.pure _)
    simp [palaverref07_text.j0]
  · by_cases c1 : p > (s.size : Int) - 2
    · simp only [c0, c1, if_true, or_true, if_false, e1, decide_true]
      refine Ev.succ (G := fun _ => some ((⟨#[]⟩ : ByteArray), (-1 : Int))) (fun k => ?_) (Ev.pure _)
      simp [palaverref07_text.j0]
    · simp only [c0, c1, or_self, if_false, e1, decide_false]
      have e2 : wrap64 (p + 2) = p + 2 := w64 (by omega) (by omega)
      have hz : (s.extract p.toNat (p + 2).toNat).size = 2 := by rw [ext_size _ _ _ (by omega) (by omega)]; omega
      have hv := bv_two_range _ hz
      have hvev : Ev (fun k => palaverref01_Value.f k (s.extract p.toNat (p + 2).toNat)) (bv 0 (bytesOf (s.extract p.toNat (p + 2).toNat))) := ⟨7, fun k hk => value_eq k _ (by omega) hk⟩
      generalize bv 0 (bytesOf (s.extract p.toNat (p + 2).toNat)) = n at *
      have e3 : wrap64 ((s.size : Int) - 2 - p) = (s.size : Int) - 2 - p := w64 (by omega) (by omega)
      have e4 : wrap64 (p + 2 + n) = p + 2 + n := w64 (by omega) (by omega)
      refine Ev.succ (G := fun k => (palaverref01_Value.f k (s.extract p.toNat (p + 2).toNat)).bind fun t => if t > (s.size : Int) - 2 - p then some ((⟨#[]⟩ : ByteArray), (-1 : Int)) else (if 0 ≤ p + 2 then (if p + 2 ≤ wrap64 (p + 2 + t) then (if wrap64 (p + 2 + t) ≤ (s.size : Int) then some (s.extract (p + 2).toNat (wrap64 (p + 2 + t)).toNat, wrap64 (p + 2 + t)) else none) else none) else none)) (fun k => ?_) (Ev.bind hvev ?_)
      · simp only [palaverref07_text.j0, e1, e2, e3]
        rw [if_neg (by decide), if_pos (by omega), if_pos (by omega), if_pos (by omega)]
      · simp only [e4]
        by_cases c2 : n > (s.size : Int) - 2 - p
        · simp only [c2, if_true]
          exact Ev.pure _
        · simp only [c2, if_false, show 0 ≤ p + 2 by omega, show p + 2 ≤ p + 2 + n by omega, show p + 2 + n ≤ (s.size : Int) by omega, if_true]
          exact Ev.pure _
theorem rtx_range (s : ByteArray) (p : Int) (h1 : p ≤ (s.size : Int)) : (rtx s p).2 = -1 ∨ (0 ≤ (rtx s p).2 ∧ (rtx s p).2 ≤ (s.size : Int)) := by
  unfold rtx
  by_cases c : p < 0 ∨ p > (s.size : Int) - 2
  · rw [if_pos c]
    exact Or.inl rfl
  · rw [if_neg c]
    have hz : (s.extract p.toNat (p + 2).toNat).size = 2 := by rw [ext_size _ _ _ (by omega) (by omega)]; omega
    have hv := bv_two_range _ hz
    generalize bv 0 (bytesOf (s.extract p.toNat (p + 2).toNat)) = n at *
    by_cases c2 : n > (s.size : Int) - 2 - p
    · rw [if_pos c2]
      exact Or.inl rfl
    · rw [if_neg c2]
      exact Or.inr ⟨by simp only; omega, by simp only; omega⟩
theorem ext_mid (a b c : ByteArray) (i j : Nat) (hi : i = a.size) (hj : j = a.size + b.size) : (a ++ (b ++ c)).extract i j = b := by
  apply bytesOf_inj
  rw [bytesOf_ext, bytesOf_app, bytesOf_app, hi, hj, ← bytesOf_length a, ← bytesOf_length b]
  rw [List.take_length_add_append, List.drop_left, List.take_left]
theorem rtx_at (pre t post : ByteArray) (ht : t.size ≤ 65535) : rtx (pre ++ (lay t ++ post)) (pre.size : Int) = (t, (pre.size : Int) + 2 + t.size) := by
  have hz : (strOfNums [(t.size : Int) / 256, (t.size : Int) % 256]).size = 2 := by rw [strOfNums_size]; rfl
  have e : pre ++ (lay t ++ post) = pre ++ (strOfNums [(t.size : Int) / 256, (t.size : Int) % 256] ++ (t ++ post)) := by
    unfold lay
    rw [app_assoc]
  have e2 : (pre ++ (lay t ++ post)).size = pre.size + (2 + t.size + post.size) := by rw [app_size, app_size, lay_size]
  have e3 : (pre ++ (lay t ++ post)).extract (pre.size : Int).toNat ((pre.size : Int) + 2).toNat = strOfNums [(t.size : Int) / 256, (t.size : Int) % 256] := by
    rw [e]
    exact ext_mid _ _ _ _ _ (by omega) (by omega)
  unfold rtx
  rw [e3, bytesOf_nums _ (by intro c hc; simp at hc; omega), bv_two, if_neg (by omega), if_neg (by omega)]
  have e4 : (pre ++ (lay t ++ post)).extract ((pre.size : Int) + 2).toNat ((pre.size : Int) + 2 + (t.size : Int)).toNat = t := by
    rw [e, ← app_assoc]
    exact ext_mid _ _ _ _ _ (by rw [app_size]; omega) (by rw [app_size]; omega)
  rw [e4]
/-- No frame. -/
def Zr : Int × Int × List ByteArray × ByteArray × List ByteArray × Bool := (0, 0, [], ⟨#[]⟩, [], false)
/-- A frame of these bytes, or none. -/
def Good (s : ByteArray) (r : Int × Int × List ByteArray × ByteArray × List ByteArray × Bool) : Prop :=
  r = Zr ∨ ∃ kind dt ids bits texts, rightB kind dt ids bits texts = true ∧ enc kind dt ids bits texts = s ∧ r = (kind, dt, ids, bits, texts, true)
theorem rend_ev (s : ByteArray) (kind dt : Int) (ids : List ByteArray) (bits : ByteArray) (texts : List ByteArray) (hi : ids.length ≤ 9223372036854775807) (ht : texts.length ≤ 9223372036854775807) :
    ∃ r, Ev (fun k => palaverref07_Decode.j3 k s kind dt ids bits texts) r ∧ Good s r ∧ (rightB kind dt ids bits texts = true → enc kind dt ids bits texts = s → r = (kind, dt, ids, bits, texts, true)) := by
  cases h : rightB kind dt ids bits texts
  · refine ⟨Zr, Ev.succ (fun k => palaverref07_Decode.j3.eq_2 s kind dt ids bits texts k) (Ev.bind (rright_ev kind dt ids bits texts hi ht) ?_), Or.inl rfl, fun z => by cases z⟩
    rw [h]
    exact Ev.pure _
  · by_cases e : enc kind dt ids bits texts = s
    · refine ⟨(kind, dt, ids, bits, texts, true), Ev.succ (fun k => palaverref07_Decode.j3.eq_2 s kind dt ids bits texts k) (Ev.bind (rright_ev kind dt ids bits texts hi ht) ?_), Or.inr ⟨kind, dt, ids, bits, texts, h, e, rfl⟩, fun _ _ => rfl⟩
      rw [h]
      simp only [if_true]
      refine Ev.bind (rencode_ev h) ?_
      simp only [e, if_true]
      exact Ev.pure _
    · refine ⟨Zr, Ev.succ (fun k => palaverref07_Decode.j3.eq_2 s kind dt ids bits texts k) (Ev.bind (rright_ev kind dt ids bits texts hi ht) ?_), Or.inl rfl, fun _ z => absurd z e⟩
      rw [h]
      simp only [if_true]
      refine Ev.bind (rencode_ev h) ?_
      simp only [show ¬ (enc kind dt ids bits texts).toList = s.toList from fun z => e ((toList_eq _ _).1 z), if_false]
      exact Ev.pure _
theorem rl0_end (s : ByteArray) (n i p : Int) (h : ¬ (i < n ∧ p ≥ 0)) (kind dt : Int) (bits : ByteArray) (texts : List ByteArray) (k : Nat) :
    palaverref07_Decode.l0 (k + 1) s n p i kind dt bits texts = palaverref07_Decode.j3 k s kind dt [] bits texts := by
  simp only [palaverref07_Decode.l0]
  by_cases c : i < n
  · rw [if_pos c, if_neg (fun z => h ⟨c, z⟩)]
  · rw [if_neg c]
theorem rl0_step (s : ByteArray) (n i p : Int) (h1 : i < n) (h2 : p ≥ 0) (hi : 0 ≤ i) (hn : n ≤ 255) (kind dt : Int) (bits : ByteArray) (texts : List ByteArray) (ht : texts.length ≤ 255) (k : Nat) :
    palaverref07_Decode.l0 (k + 1) s n p i kind dt bits texts = (palaverref07_text.f k s p).bind fun bt => palaverref07_Decode.l0 k s n bt.2 (i + 1) kind dt bits (texts ++ [bt.1]) := by
  simp only [palaverref07_Decode.l0]
  rw [if_pos h1, if_pos h2, w64 (by omega) (by omega)]
  simp only [show texts.length < 8796093022208 by omega, if_true]
theorem rl0_ev (s : ByteArray) (hs : s.size ≤ 65535) (n : Int) (hn : n ≤ 255) (kind dt : Int) (bits : ByteArray) : ∀ (m : Nat) (i p : Int) (texts : List ByteArray), 0 ≤ i → n - i ≤ m → (p = -1 ∨ (0 ≤ p ∧ p ≤ (s.size : Int))) → texts.length + m ≤ 255 →
    ∃ r, Ev (fun k => palaverref07_Decode.l0 k s n p i kind dt bits texts) r ∧ Good s r
  | 0, i, p, texts, h0, h1, hp, ht => by
    obtain ⟨r, hr, hg, _⟩ := rend_ev s kind dt [] bits texts (by simp) (by omega)
    exact ⟨r, Ev.succ (fun k => rl0_end s n i p (by omega) kind dt bits texts k) hr, hg⟩
  | m + 1, i, p, texts, h0, h1, hp, ht => by
    by_cases c : i < n ∧ p ≥ 0
    · obtain ⟨r, hr, hg⟩ := rl0_ev s hs n hn kind dt bits m (i + 1) (rtx s p).2 (texts ++ [(rtx s p).1]) (by omega) (by omega) (rtx_range s p (by omega)) (by simp; omega)
      exact ⟨r, Ev.succ (fun k => rl0_step s n i p c.1 c.2 h0 hn kind dt bits texts (by omega) k) (Ev.bind (rtx_ev s hs p (by omega) (by omega)) hr), hg⟩
    · obtain ⟨r, hr, hg, _⟩ := rend_ev s kind dt [] bits texts (by simp) (by omega)
      exact ⟨r, Ev.succ (fun k => rl0_end s n i p c kind dt bits texts k) hr, hg⟩
theorem rl0_back (s : ByteArray) (hs : s.size ≤ 65535) (kind dt : Int) (bits : ByteArray) : ∀ (l : List ByteArray) (pre : ByteArray) (i n : Int) (texts : List ByteArray) (r : Int × Int × List ByteArray × ByteArray × List ByteArray × Bool), 0 ≤ i → n = i + l.length → n ≤ 255 → texts.length + l.length ≤ 255 → s = pre ++ catT l → (∀ i, i < l.length → (at_ l i).size ≤ 65535) →
    Ev (fun k => palaverref07_Decode.j3 k s kind dt [] bits (texts ++ l)) r → Ev (fun k => palaverref07_Decode.l0 k s n (pre.size : Int) i kind dt bits texts) r
  | [], pre, i, n, texts, r, h0, hn, hn2, ht, he, hl, h => by
    rw [List.append_nil] at h
    exact Ev.succ (fun k => rl0_end s n i _ (by simp at hn; omega) kind dt bits texts k) h
  | t :: l, pre, i, n, texts, r, h0, hn, hn2, ht, he, hl, h => by
    have hz := hl 0 (by simp)
    rw [at_cons_zero] at hz
    have e : s = pre ++ (lay t ++ catT l) := he
    have ih := rl0_back s hs kind dt bits l (pre ++ lay t) (i + 1) n (texts ++ [t]) r (by omega) (by simp at hn ⊢; omega) hn2 (by simp at ht ⊢; omega) (by rw [e, app_assoc]) (fun i hi => by have := hl (i + 1) (by simp; omega); rwa [at_cons_succ] at this) (by rw [List.append_assoc]; exact h)
    have hp : (pre.size : Int) ≤ s.size := by rw [e, app_size]; omega
    refine Ev.succ (fun k => rl0_step s n i _ (by simp at hn; omega) (by omega) h0 hn2 kind dt bits texts (by omega) k) (Ev.bind (rtx_ev s hs _ (by omega) hp) ?_)
    have hx := rtx_at pre t (catT l) hz
    rw [← e] at hx
    simp only [hx]
    rw [app_size, lay_size] at ih
    rw [show (pre.size : Int) + 2 + (t.size : Int) = ((pre.size + (2 + t.size) : Nat) : Int) by omega]
    exact ih
/-! ids -/
theorem rfin_ev (s : ByteArray) (hs : s.size ≤ 65535) (kind dt p : Int) (ids : List ByteArray) (hi : ids.length ≤ 255) (h0 : 0 ≤ p) (h1 : p ≤ (s.size : Int)) :
    ∃ r, Ev (fun k => if kind = 2 then (palaverref07_text.f k s p).bind fun bt => palaverref07_Decode.j3 k s kind dt ids bt.1 [] else palaverref07_Decode.j3 k s kind dt ids ⟨#[]⟩ []) r ∧ Good s r := by
  by_cases k2 : kind = 2
  · obtain ⟨r, hr, hg, _⟩ := rend_ev s kind dt ids (rtx s p).1 [] (by omega) (by simp)
    refine ⟨r, ?_, hg⟩
    simp only [if_pos k2]
    exact Ev.bind (rtx_ev s hs p (by omega) h1) hr
  · obtain ⟨r, hr, hg, _⟩ := rend_ev s kind dt ids ⟨#[]⟩ [] (by omega) (by simp)
    refine ⟨r, ?_, hg⟩
    simp only [if_neg k2]
    exact hr
theorem rl1_end (s : ByteArray) (n i p : Int) (h : ¬ i < n) (kind dt : Int) (ids : List ByteArray) (k : Nat) :
    palaverref07_Decode.l1 (k + 1) s n p i kind dt ids ⟨#[]⟩ = if kind = 2 then (palaverref07_text.f k s p).bind fun bt => palaverref07_Decode.j3 k s kind dt ids bt.1 [] else palaverref07_Decode.j3 k s kind dt ids ⟨#[]⟩ [] := by
  simp only [palaverref07_Decode.l1]
  rw [if_neg h]
theorem rl1_step (s : ByteArray) (hs : s.size ≤ 65535) (n i p : Int) (h1 : i < n) (h2 : 0 ≤ p) (h3 : p ≤ (s.size : Int) - 32) (hi : 0 ≤ i) (hn : n ≤ 255) (kind dt : Int) (ids : List ByteArray) (ht : ids.length ≤ 255) (k : Nat) :
    palaverref07_Decode.l1 (k + 1) s n p i kind dt ids ⟨#[]⟩ = palaverref07_Decode.l1 k s n (p + 32) (i + 1) kind dt (ids ++ [s.extract p.toNat (p + 32).toNat]) ⟨#[]⟩ := by
  simp only [palaverref07_Decode.l1]
  rw [if_pos h1, w64 (n := (s.size : Int) - 32) (by omega) (by omega), if_neg (by omega), if_pos h2, w64 (n := p + 32) (by omega) (by omega), if_pos (by omega), if_pos (by omega), if_pos (by omega), w64 (n := i + 1) (by omega) (by omega)]
theorem rl1_ev (s : ByteArray) (hs : s.size ≤ 65535) (n : Int) (hn : n ≤ 255) (kind dt : Int) : ∀ (m : Nat) (i p : Int) (ids : List ByteArray), 0 ≤ i → n - i ≤ m → 0 ≤ p → p ≤ (s.size : Int) → ids.length + m ≤ 255 →
    ∃ r, Ev (fun k => palaverref07_Decode.l1 k s n p i kind dt ids ⟨#[]⟩) r ∧ Good s r
  | 0, i, p, ids, h0, h1, hp, hp2, ht => by
    obtain ⟨r, hr, hg⟩ := rfin_ev s hs kind dt p ids (by omega) hp hp2
    exact ⟨r, Ev.succ (fun k => rl1_end s n i p (by omega) kind dt ids k) hr, hg⟩
  | m + 1, i, p, ids, h0, h1, hp, hp2, ht => by
    by_cases c : i < n
    · by_cases c2 : p ≤ (s.size : Int) - 32
      · obtain ⟨r, hr, hg⟩ := rl1_ev s hs n hn kind dt m (i + 1) (p + 32) (ids ++ [s.extract p.toNat (p + 32).toNat]) (by omega) (by omega) (by omega) (by omega) (by simp; omega)
        exact ⟨r, Ev.succ (fun k => rl1_step s hs n i p c hp c2 h0 hn kind dt ids (by omega) k) hr, hg⟩
      · refine ⟨Zr, Ev.succ (G := fun _ => some Zr) (fun k => ?_) (Ev.pure _), Or.inl rfl⟩
        simp only [palaverref07_Decode.l1]
        rw [if_pos c, w64 (by omega) (by omega), if_pos (by omega)]
        rfl
    · obtain ⟨r, hr, hg⟩ := rfin_ev s hs kind dt p ids (by omega) hp hp2
      exact ⟨r, Ev.succ (fun k => rl1_end s n i p c kind dt ids k) hr, hg⟩
theorem rl1_back (s : ByteArray) (hs : s.size ≤ 65535) (kind dt : Int) (tail : ByteArray) : ∀ (l : List ByteArray) (pre : ByteArray) (i n : Int) (ids : List ByteArray) (r : Int × Int × List ByteArray × ByteArray × List ByteArray × Bool), 0 ≤ i → n = i + l.length → n ≤ 255 → ids.length + l.length ≤ 255 → s = pre ++ (catI l ++ tail) → (∀ i, i < l.length → (at_ l i).size = 32) →
    (∀ pre2, s = pre2 ++ tail → Ev (fun k => if kind = 2 then (palaverref07_text.f k s (pre2.size : Int)).bind fun bt => palaverref07_Decode.j3 k s kind dt (ids ++ l) bt.1 [] else palaverref07_Decode.j3 k s kind dt (ids ++ l) ⟨#[]⟩ []) r) → Ev (fun k => palaverref07_Decode.l1 k s n (pre.size : Int) i kind dt ids ⟨#[]⟩) r
  | [], pre, i, n, ids, r, h0, hn, hn2, ht, he, hl, h => by
    have := h pre (by rw [he, show catI [] ++ tail = tail from nil_app tail])
    rw [List.append_nil] at this
    exact Ev.succ (fun k => rl1_end s n i _ (by simp at hn; omega) kind dt ids k) this
  | t :: l, pre, i, n, ids, r, h0, hn, hn2, ht, he, hl, h => by
    have hz := hl 0 (by simp)
    rw [at_cons_zero] at hz
    have e : s = pre ++ (t ++ (catI l ++ tail)) := by rw [he, show catI (t :: l) ++ tail = t ++ (catI l ++ tail) from app_assoc _ _ _]
    have ih := rl1_back s hs kind dt tail l (pre ++ t) (i + 1) n (ids ++ [t]) r (by omega) (by simp at hn ⊢; omega) hn2 (by simp at ht ⊢; omega) (by rw [e, app_assoc]) (fun i hi => by have := hl (i + 1) (by simp; omega); rwa [at_cons_succ] at this) (fun pre2 hp2 => by rw [List.append_assoc]; exact h pre2 hp2)
    have hp : (pre.size : Int) ≤ (s.size : Int) - 32 := by rw [e, app_size, app_size]; omega
    have hx : s.extract (pre.size : Int).toNat ((pre.size : Int) + 32).toNat = t := by
      rw [e]
      exact ext_mid _ _ _ _ _ (by omega) (by omega)
    refine Ev.succ (fun k => rl1_step s hs n i _ (by simp at hn; omega) (by omega) hp h0 hn2 kind dt ids (by omega) k) ?_
    rw [hx]
    rw [app_size] at ih
    rw [show (pre.size : Int) + 32 = ((pre.size + t.size : Nat) : Int) by omega]
    exact ih
/-! the whole -/
theorem wbt (s : ByteArray) (i : Int) : wrap64 (bt s i) = bt s i := by
  have := bt_range s i
  exact w64 (by omega) (by omega)
theorem rj0_false (s : ByteArray) (h2 : 2 ≤ s.size) (k : Nat) : palaverref07_Decode.j0 (k + 1) s false =
    if bt s 0 = 5 then (palaverref07_text.f k s 2).bind fun b => palaverref07_Decode.j3 k s (bt s 0) (bt s 1) [] ⟨#[]⟩ [b.1]
    else if bt s 0 = 4 then palaverref07_Decode.l0 k s (bt s 1) 2 0 (bt s 0) 0 ⟨#[]⟩ []
    else if bt s 0 ≤ 3 then palaverref07_Decode.l1 k s (bt s 1) 2 0 (bt s 0) 0 [] ⟨#[]⟩
    else palaverref07_Decode.j3 k s (bt s 0) 0 [] ⟨#[]⟩ [] := by
  simp only [palaverref07_Decode.j0, wbt]
  rw [if_neg (by decide), if_pos (by omega), if_pos (by omega)]
theorem rdecode_sound (s : ByteArray) (hs : s.size ≤ 65535) : ∃ r, Ev (fun k => palaverref07_Decode.f k s) r ∧ Good s r := by
  unfold palaverref07_Decode.f
  by_cases c : (s.size : Int) < 2
  · refine ⟨Zr, ?_, Or.inl rfl⟩
    simp only [c, if_true]
    refine Ev.succ (G := fun _ => some Zr) (fun k => ?_) (Ev.pure _)
    simp only [palaverref07_Decode.j0, if_true]
    rfl
  · simp only [c, if_false, show ¬ (s.size : Int) > 65535 by omega, decide_false]
    have b0 := bt_range s 0
    have b1 := bt_range s 1
    have fin : ∀ {G : Nat → Option (Int × Int × List ByteArray × ByteArray × List ByteArray × Bool)}, (∀ k, palaverref07_Decode.j0 (k + 1) s false = G k) → (∃ r, Ev G r ∧ Good s r) → ∃ r, Ev (fun k => palaverref07_Decode.j0 k s false) r ∧ Good s r := fun hG ⟨r, hr, hg⟩ => ⟨r, Ev.succ hG hr, hg⟩
    by_cases k5 : bt s 0 = 5
    · refine fin (fun k => by rw [rj0_false s (by omega) k, if_pos k5]) ?_
      obtain ⟨r, hr, hg, _⟩ := rend_ev s (bt s 0) (bt s 1) [] ⟨#[]⟩ [(rtx s 2).1] (by simp) (by simp)
      exact ⟨r, Ev.bind (rtx_ev s hs 2 (by omega) (by omega)) hr, hg⟩
    · by_cases k4 : bt s 0 = 4
      · refine fin (fun k => by rw [rj0_false s (by omega) k, if_neg k5, if_pos k4]) ?_
        exact rl0_ev s hs (bt s 1) (by omega) (bt s 0) 0 ⟨#[]⟩ (bt s 1).toNat 0 2 [] (by omega) (by omega) (by omega) (by simp; omega)
      · by_cases k3 : bt s 0 ≤ 3
        · refine fin (fun k => by rw [rj0_false s (by omega) k, if_neg k5, if_neg k4, if_pos k3]) ?_
          exact rl1_ev s hs (bt s 1) (by omega) (bt s 0) 0 (bt s 1).toNat 0 2 [] (by omega) (by omega) (by omega) (by omega) (by simp; omega)
        · refine fin (fun k => by rw [rj0_false s (by omega) k, if_neg k5, if_neg k4, if_neg k3]) ?_
          obtain ⟨r, hr, hg, _⟩ := rend_ev s (bt s 0) 0 [] ⟨#[]⟩ [] (by simp) (by simp)
          exact ⟨r, hr, hg⟩
theorem bt_two (a b : Int) (ha : 0 ≤ a) (ha2 : a < 256) (hb : 0 ≤ b) (hb2 : b < 256) (rest : ByteArray) : bt (two a b ++ rest) 0 = a ∧ bt (two a b ++ rest) 1 = b := by
  have e : bytesOf (two a b ++ rest) = a :: b :: bytesOf rest := by
    unfold two
    rw [bytesOf_app, bytesOf_app, bytesOf_nums _ (by intro c hc; simp at hc; omega), bytesOf_nums _ (by intro c hc; simp at hc; omega), show a % 256 = a by omega, show b % 256 = b by omega]
    rfl
  have hz : (two a b ++ rest).size = 2 + rest.size := by rw [app_size, two_size]
  constructor
  · have := bt_bytes (two a b ++ rest) 0 (by omega)
    simp only [e] at this
    exact this
  · have := bt_bytes (two a b ++ rest) 1 (by omega)
    simp only [e] at this
    exact this
theorem rdecode_back {kind dt : Int} {ids : List ByteArray} {bits : ByteArray} {texts : List ByteArray} (h : rightB kind dt ids bits texts = true) (hm : (enc kind dt ids bits texts).size ≤ 65535) :
    Ev (fun k => palaverref07_Decode.f k (enc kind dt ids bits texts)) (kind, dt, ids, bits, texts, true) := by
  have h2 := (enc_size h).1
  unfold palaverref07_Decode.f
  simp only [show ¬ ((enc kind dt ids bits texts).size : Int) < 2 by omega, show ¬ ((enc kind dt ids bits texts).size : Int) > 65535 by omega, if_false, decide_false]
  have fin : ∀ {G : Nat → Option (Int × Int × List ByteArray × ByteArray × List ByteArray × Bool)} {r : Int × Int × List ByteArray × ByteArray × List ByteArray × Bool}, (∀ k, palaverref07_Decode.j0 (k + 1) (enc kind dt ids bits texts) false = G k) → Ev G r → Ev (fun k => palaverref07_Decode.j0 k (enc kind dt ids bits texts) false) r := fun hG hr => Ev.succ hG hr
  obtain ⟨re, hre, _, hok⟩ := rend_ev (enc kind dt ids bits texts) kind dt ids bits texts (by rcases right_cases h with ⟨_, _, rfl, _⟩ | ⟨_, _, _, rfl, _⟩ | ⟨_, _, _, _, _, hl, _⟩ <;> first | (simp; done) | omega) (by rcases right_cases h with ⟨_, _, _, _, _, _, hl⟩ | ⟨_, _, _, _, _, t, rfl, _⟩ | ⟨_, _, _, rfl, _⟩ <;> first | (simp; done) | omega)
  have hre2 := hok h rfl
  subst hre2
  rcases right_cases h with ⟨k, rfl, rfl, rfl, ht, h1, h9⟩ | ⟨k, d0, d1, rfl, rfl, t, rfl, h1, h9⟩ | ⟨k1, k2, rfl, rfl, hi, h1, h9, h3⟩
  · have ee : enc kind 0 [] ⟨#[]⟩ texts = two kind texts.length ++ catT texts := by unfold enc; rw [if_neg (by omega), if_pos k]
    have hb := bt_two kind texts.length (by omega) (by omega) (by omega) (by omega) (catT texts)
    rw [← ee] at hb
    refine fin (fun k => by rw [rj0_false _ h2 k, hb.1, hb.2, if_neg (by omega), if_pos (by omega)]) ?_
    have := rl0_back (enc kind 0 [] ⟨#[]⟩ texts) hm kind 0 ⟨#[]⟩ texts (two kind texts.length) 0 texts.length [] _ (by omega) (by omega) (by omega) (by simp; omega) ee (fun i hi => (ht i hi).2) hre
    rw [two_size] at this
    exact this
  · have ee : enc kind dt [] ⟨#[]⟩ [t] = two kind dt ++ lay t := by unfold enc; rw [if_pos k, at_cons_zero]
    have hb := bt_two kind dt (by omega) (by omega) (by omega) (by omega) (lay t)
    rw [← ee] at hb
    refine fin (fun k => by rw [rj0_false _ h2 k, hb.1, hb.2, if_pos (by omega)]) ?_
    have hx := rtx_at (two kind dt) t ⟨#[]⟩ h9
    rw [app_nil, ← ee, two_size] at hx
    refine Ev.bind (rtx_ev _ hm 2 (by omega) (by omega)) ?_
    rw [show (2 : Int) = ((2 : Nat) : Int) from rfl, hx]
    exact hre
  · by_cases kk : kind = 2
    · have ee : enc kind 0 ids bits [] = two kind ids.length ++ (catI ids ++ lay bits) := by unfold enc; rw [if_neg (by omega), if_neg (by omega), if_pos kk, app_assoc]
      have hb := bt_two kind ids.length (by omega) (by omega) (by omega) (by omega) (catI ids ++ lay bits)
      rw [← ee] at hb
      refine fin (fun k => by rw [rj0_false _ h2 k, hb.1, hb.2, if_neg (by omega), if_neg (by omega), if_pos (by omega)]) ?_
      have := rl1_back (enc kind 0 ids bits []) hm kind 0 (lay bits) ids (two kind ids.length) 0 ids.length [] (kind, 0, ids, bits, [], true) (by omega) (by omega) (by omega) (by simp; omega) ee (fun i hi' => (hi i hi').1) (fun pre2 hp2 => by
        simp only [if_pos kk, List.nil_append]
        have hx := rtx_at pre2 bits ⟨#[]⟩ (by omega)
        rw [app_nil, ← hp2] at hx
        refine Ev.bind (rtx_ev _ hm _ (by omega) (by rw [hp2, app_size]; omega)) ?_
        rw [hx]
        exact hre)
      rw [two_size] at this
      exact this
    · have hbits := h3 kk
      subst hbits
      have ee : enc kind 0 ids ⟨#[]⟩ [] = two kind ids.length ++ (catI ids ++ ⟨#[]⟩) := by unfold enc; rw [if_neg (by omega), if_neg (by omega), if_neg kk, app_nil]
      have hb := bt_two kind ids.length (by omega) (by omega) (by omega) (by omega) (catI ids ++ ⟨#[]⟩)
      rw [← ee] at hb
      refine fin (fun k => by rw [rj0_false _ h2 k, hb.1, hb.2, if_neg (by omega), if_neg (by omega), if_pos (by omega)]) ?_
      have := rl1_back (enc kind 0 ids ⟨#[]⟩ []) hm kind 0 ⟨#[]⟩ ids (two kind ids.length) 0 ids.length [] (kind, 0, ids, ⟨#[]⟩, [], true) (by omega) (by omega) (by omega) (by simp; omega) ee (fun i hi' => (hi i hi').1) (fun pre2 hp2 => by
        simp only [if_neg kk, List.nil_append]
        exact hre)
      rw [two_size] at this
      exact this
end Go.Proofs.Ytbiempnleljciaa.Frm
