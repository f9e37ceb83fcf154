/-
  Events: what the document's Decode answers: a right event of which the bytes are these, or none.
  Conditions: none.
-/
import Derived.Test.YtmedpnclkbkiiaaDoorEvt3
import Derived.Test.YtmedpnclkbkiiaaDoorEvtR
import Derived.Test.YtmedpnclkbkiiaaDoorPPx11
namespace Go.Proofs.YtmedpnclkbkiiaaDoor.Oct
open Go.RowKit Go.Proofs.YtmedpnclkbkiiaaDoor.PP Go.Proofs.YtmedpnclkbkiiaaDoorW.PrintWords Go.Proofs.YtmedpnclkbkiiaaDoorW.PrintLast Go.Proofs.YtmedpnclkbkiiaaDoorW.PrintMore
set_option linter.unusedSimpArgs false
set_option linter.unusedVariables false

theorem bt_bytes (s : ByteArray) (i : Nat) (h : i < s.size) : bt s (i : Int) = (bytesOf s)[i]'(by rw [bytesOf_length]; exact h) := by
  unfold bytesOf
  rw [bt, dif_pos (by simpa using h)]
  simp
  rfl
/-- The number of few bytes, as the document has it. -/
theorem value_loop (s : ByteArray) (hs : s.size ≤ 6) :
    ∀ (d k i : Nat) (x : Int), i + d = s.size → 0 ≤ x → x < 256 ^ i → d < k → palaverref01_Value.l0 k s x (i : Int) = some (bv x ((bytesOf s).drop i))
  | 0, k, i, x, hi, h0, h1, hk => by
    obtain ⟨k, rfl⟩ : ∃ m, k = m + 1 := ⟨k - 1, by omega⟩
    rw [palaverref01_Value.l0, if_neg (by omega), List.drop_of_length_le (by rw [bytesOf_length]; omega)]
    rfl
  | d + 1, k, i, x, hi, h0, h1, hk => by
    obtain ⟨k, rfl⟩ : ∃ m, k = m + 1 := ⟨k - 1, by omega⟩
    have hil : i < s.size := by omega
    have hil2 : i < (bytesOf s).length := by rw [bytesOf_length]; exact hil
    have hm := bytesOf_mem s _ (List.getElem_mem hil2)
    have hp : (256 : Int) ^ i ≤ 1099511627776 := by
      have h : (256 : Nat) ^ i ≤ 1099511627776 := Nat.le_trans (Nat.pow_le_pow_right (by decide) (show i ≤ 5 by omega)) (by decide)
      rw [show (256 : Int) ^ i = ((256 ^ i : Nat) : Int) by simp]
      omega
    have hx : x < 1099511627776 := by omega
    rw [palaverref01_Value.l0, if_pos (by omega), if_pos (by omega), bt_bytes s i hil, w64 (n := 256 * x) (by omega) (by omega), w64 (n := (bytesOf s)[i]) (by omega) (by omega), w64 (n := 256 * x + (bytesOf s)[i]) (by omega) (by omega), w64 (n := (i : Int) + 1) (by omega) (by omega)]
    have hs2 : 256 * x + (bytesOf s)[i] < 256 ^ (i + 1) := by
      rw [Int.pow_succ]
      omega
    have := value_loop s hs d k (i + 1) (256 * x + (bytesOf s)[i]) (by omega) (by omega) hs2 (by omega)
    rw [show ((i : Int) + 1) = ((i + 1 : Nat) : Int) by omega, this, List.drop_eq_getElem_cons hil2]
    show some _ = some (bv (x * 256 + (bytesOf s)[i]) _)
    rw [Int.mul_comm]
theorem value_eq (k : Nat) (s : ByteArray) (hs : s.size ≤ 6) (hk : 7 ≤ k) : palaverref01_Value.f k s = some (bv 0 (bytesOf s)) := by
  unfold palaverref01_Value.f
  have := value_loop s hs s.size k 0 0 (by omega) (by omega) (by simp) (by omega)
  rw [List.drop_zero] at this
  exact this
end Go.Proofs.YtmedpnclkbkiiaaDoor.Oct
namespace Go.Proofs.YtmedpnclkbkiiaaDoor.Oct.Evt
open Go.RowKit Go.Proofs.YtmedpnclkbkiiaaDoor.PP Go.Proofs.YtmedpnclkbkiiaaDoorW.PrintWords Go.Proofs.YtmedpnclkbkiiaaDoorW.PrintLast Go.Proofs.YtmedpnclkbkiiaaDoorW.PrintMore
open Go.Proofs.YtmedpnclkbkiiaaDoor.Sha (ifs ifn)
set_option linter.unusedSimpArgs false
set_option linter.unusedVariables false

theorem ext_size (s : ByteArray) (a b : Nat) (h : a ≤ b) (h2 : b ≤ s.size) : (s.extract a b).size = b - a := by simp; omega
theorem bv_two_range (a : ByteArray) (h : a.size = 2) : 0 ≤ bv 0 (bytesOf a) ∧ bv 0 (bytesOf a) ≤ 65535 := by
  obtain ⟨x, y, hxy, x0, x1, y0, y1⟩ := bytes_two h
  rw [hxy]
  simp only [bv, List.foldl]
  omega
theorem ext_mid (a b c : ByteArray) (i j : Nat) (hi : i = a.size) (hj : j = a.size + b.size) : (a ++ (b ++ c)).extract i j = b := by
  apply bytesOf_inj
  rw [bytesOf_ext, bytesOf_app, bytesOf_app, hi, hj, ← bytesOf_length a, ← bytesOf_length b]
  rw [List.take_length_add_append, List.drop_left, List.take_left]
theorem wbt (s : ByteArray) (i : Int) : wrap64 (bt s i) = bt s i := by
  have := bt_range s i
  exact w64 (by omega) (by omega)
theorem bt_mid (pre rest : ByteArray) (n : Int) (h0 : 0 ≤ n) (h1 : n < 256) : bt (pre ++ (one n ++ rest)) (pre.size : Int) = n := by
  have e : bytesOf (pre ++ (one n ++ rest)) = bytesOf pre ++ (n :: bytesOf rest) := by
    rw [bytesOf_app, bytesOf_app]
    unfold one
    rw [bytesOf_nums _ (by intro c hc; simp at hc; omega), show n % 256 = n by omega]
    rfl
  have := bt_bytes (pre ++ (one n ++ rest)) pre.size (by rw [app_size, app_size, one_size]; omega)
  rw [this]
  simp only [e]
  rw [List.getElem_append_right (by rw [bytesOf_length]; exact Nat.le_refl _)]
  simp [bytesOf_length]
abbrev Rez := Int × ByteArray × List ByteArray × ByteArray × ByteArray × Bool
/-- No event. -/
def Zr : Rez := (0, ⟨#[]⟩, [], ⟨#[]⟩, ⟨#[]⟩, false)
/-- An event of these bytes, or none. -/
def Good (s : ByteArray) (r : Rez) : Prop :=
  r = Zr ∨ ∃ kind a ps b g, rightB kind a ps b g = true ∧ enc kind a ps b g = s ∧ r = (kind, a, ps, b, g, true)
theorem parts {s pre b g : ByteArray} {p v : Int} (e : s = pre ++ (lay b ++ lay g)) (hp : (pre.size : Int) = p) (hb : b.size ≤ 65535) (hv : bv 0 (bytesOf (s.extract p.toNat (p + 2).toNat)) = v) :
    v = b.size ∧ (s.size : Int) = p + 2 + v + 2 + g.size ∧ s.extract (p + 2).toNat (p + 2 + v).toNat = b ∧ s.extract (p + 2 + v + 2).toNat s.size = g := by
  have hz : ∀ x : ByteArray, (strOfNums [(x.size : Int) / 256, (x.size : Int) % 256]).size = 2 := fun x => by rw [strOfNums_size]; rfl
  have e1 : s = pre ++ (strOfNums [(b.size : Int) / 256, (b.size : Int) % 256] ++ (b ++ lay g)) := by
    rw [e]
    conv => lhs; unfold lay
    rw [app_assoc]
    rfl
  have e3 : s.extract p.toNat (p + 2).toNat = strOfNums [(b.size : Int) / 256, (b.size : Int) % 256] := by
    rw [e1]
    exact ext_mid _ _ _ _ _ (by omega) (by rw [hz]; omega)
  have h1 : v = b.size := by
    rw [← hv, e3, bytesOf_nums _ (by intro c hc; simp at hc; omega), bv_two]
  have h2 : (s.size : Int) = p + 2 + v + 2 + g.size := by
    rw [e, app_size, app_size, lay_size, lay_size]
    omega
  refine ⟨h1, h2, ?_, ?_⟩
  · rw [e1, ← app_assoc]
    exact ext_mid _ _ _ _ _ (by rw [app_size, hz]; omega) (by rw [app_size, hz]; omega)
  · have e5 : s = (pre ++ (lay b ++ strOfNums [(g.size : Int) / 256, (g.size : Int) % 256])) ++ (g ++ ⟨#[]⟩) := by
      rw [e, app_nil]
      conv => lhs; rw [show lay g = strOfNums [(g.size : Int) / 256, (g.size : Int) % 256] ++ g from rfl]
      simp only [app_assoc]
    rw [e5]
    exact ext_mid _ _ _ _ _ (by rw [app_size, app_size, lay_size, hz]; omega) (by rw [← e5, app_size, app_size, lay_size, hz]; omega)
theorem j2_no (s : ByteArray) (p kind : Int) (a : ByteArray) (ps : List ByteArray) (b0 g0 : ByteArray) : Sha.Ev (fun k => palaverref06_Decode.j2 k s p true kind a ps b0 g0) Zr :=
  Sha.Ev.succ (fun k => palaverref06_Decode.j2.eq_2 s p true kind a ps b0 g0 k) (ifs rfl (Sha.Ev.pure _))
theorem j0_no (s : ByteArray) : Sha.Ev (fun k => palaverref06_Decode.j0 k s true) Zr :=
  Sha.Ev.succ (fun k => palaverref06_Decode.j0.eq_2 s true k) (ifs rfl (Sha.Ev.pure _))
/-- What the texts at a place make. -/
theorem rfin (s : ByteArray) (hs : s.size ≤ 100000) (h36 : 36 ≤ s.size) (p i : Int) (hp0 : 0 ≤ p) (hp : p ≤ s.size) (hi : ¬ i < bt s 35) (kind : Int) (a : ByteArray) (ps : List ByteArray) (b0 g0 : ByteArray) (hl : ps.length ≤ 9223372036854775807) :
    ∃ r, Sha.Ev (fun k => palaverref06_Decode.l0 k s p i kind a ps b0 g0) r ∧ Good s r ∧ (∀ pre b g, s = pre ++ (lay b ++ lay g) → (pre.size : Int) = p → rightB kind a ps b g = true → enc kind a ps b g = s → r = (kind, a, ps, b, g, true)) := by
  have w2 : wrap64 (p + 2) = p + 2 := w64 (by omega) (by omega)
  by_cases c1 : p + 2 > (s.size : Int)
  · refine ⟨Zr, Sha.Ev.succ (fun k => palaverref06_Decode.l0.eq_2 s p i kind a ps b0 g0 k) (ifs (by omega) (ifn (by rw [wbt]; exact hi) (ifs (by rw [w2]; exact c1) (j2_no s p kind a ps b0 g0)))), Or.inl rfl, fun pre b g e hpp _ _ => ?_⟩
    have : s.size = pre.size + (2 + b.size + (2 + g.size)) := by rw [e, app_size, app_size, lay_size, lay_size]
    omega
  · have hz : (s.extract p.toNat (p + 2).toNat).size = 2 := by rw [ext_size _ _ _ (by omega) (by omega)]; omega
    have hv := bv_two_range _ hz
    have hev : Sha.Ev (fun k => palaverref01_Value.f k (s.extract p.toNat (p + 2).toNat)) (bv 0 (bytesOf (s.extract p.toNat (p + 2).toNat))) := ⟨7, fun k hk => value_eq k _ (by omega) hk⟩
    generalize ev : bv 0 (bytesOf (s.extract p.toNat (p + 2).toNat)) = v at *
    have w4 : wrap64 (p + 2 + v) = p + 2 + v := w64 (by omega) (by omega)
    have w5 : wrap64 (p + 2 + v + 2) = p + 2 + v + 2 := w64 (by omega) (by omega)
    have start : ∀ {r : Rez}, Sha.Ev (fun k => palaverref06_Decode.j2 k s p (decide (p + 2 + v > (s.size : Int))) kind a ps b0 g0) r → Sha.Ev (fun k => palaverref06_Decode.l0 k s p i kind a ps b0 g0) r := by
      intro r hr
      refine Sha.Ev.succ (fun k => palaverref06_Decode.l0.eq_2 s p i kind a ps b0 g0 k) (ifs (by omega) (ifn (by rw [wbt]; exact hi) (ifn (by rw [w2]; exact c1) ?_)))
      refine ifs hp0 (ifs (by rw [w2]; omega) (ifs (by rw [w2]; omega) ?_))
      rw [w2]
      refine Sha.Ev.bind hev ?_
      rw [w4]
      exact hr
    by_cases c2 : p + 2 + v > (s.size : Int)
    · refine ⟨Zr, start (by rw [decide_eq_true c2]; exact j2_no s p kind a ps b0 g0), Or.inl rfl, fun pre b g e hpp hr _ => ?_⟩
      have := (parts e hpp (by have := (right_has hr).2.2.2.2.1; omega) ev).2.1
      omega
    · have enter : ∀ {r : Rez}, Sha.Ev (fun k => if p + 2 + v + 2 > (s.size : Int) then some Zr else (palaverref06_Right.f k kind a ps (s.extract (p + 2).toNat (p + 2 + v).toNat) (s.extract (p + 2 + v + 2).toNat s.size)).bind fun t377 => if t377 = true then (palaverref06_Encode.f k kind a ps (s.extract (p + 2).toNat (p + 2 + v).toNat) (s.extract (p + 2 + v + 2).toNat s.size)).bind fun t378 => if t378.toList = s.toList then some (kind, a, ps, s.extract (p + 2).toNat (p + 2 + v).toNat, s.extract (p + 2 + v + 2).toNat s.size, true) else some Zr else some Zr) r → Sha.Ev (fun k => palaverref06_Decode.l0 k s p i kind a ps b0 g0) r := by
        intro r hr
        refine start ?_
        rw [decide_eq_false c2]
        refine Sha.Ev.succ (fun k => palaverref06_Decode.j2.eq_2 s p false kind a ps b0 g0 k) (ifn (by decide) (ifs hp0 (ifs (by rw [w2]; omega) (ifs (by rw [w2]; omega) ?_))))
        simp only [w2]
        refine Sha.Ev.bind hev ?_
        simp only [w4, w5]
        refine ifs (by omega) (ifs (by omega) (ifs (by omega) ?_))
        by_cases c3 : p + 2 + v + 2 > (s.size : Int)
        · simp only [c3, if_true] at hr ⊢
          exact hr
        · simp only [c3, if_false] at hr ⊢
          refine ifs (by omega) (ifs (by omega) ?_)
          exact hr
      by_cases c3 : p + 2 + v + 2 > (s.size : Int)
      · refine ⟨Zr, enter (ifs c3 (Sha.Ev.pure _)), Or.inl rfl, fun pre b g e hpp hr _ => ?_⟩
        have := (parts e hpp (by have := (right_has hr).2.2.2.2.1; omega) ev).2.1
        omega
      · cases hq : rightB kind a ps (s.extract (p + 2).toNat (p + 2 + v).toNat) (s.extract (p + 2 + v + 2).toNat s.size)
        · refine ⟨Zr, enter (ifn c3 (Sha.Ev.bind (rright_ev kind a ps _ _ hl) ?_)), Or.inl rfl, fun pre b g e hpp hr _ => ?_⟩
          · rw [hq]
            exact Sha.Ev.pure _
          · obtain ⟨_, _, x1, x2⟩ := parts e hpp (by have := (right_has hr).2.2.2.2.1; omega) ev
            rw [x1, x2, hr] at hq
            cases hq
        · by_cases e : enc kind a ps (s.extract (p + 2).toNat (p + 2 + v).toNat) (s.extract (p + 2 + v + 2).toNat s.size) = s
          · refine ⟨(kind, a, ps, s.extract (p + 2).toNat (p + 2 + v).toNat, s.extract (p + 2 + v + 2).toNat s.size, true), enter (ifn c3 (Sha.Ev.bind (rright_ev kind a ps _ _ hl) ?_)), Or.inr ⟨kind, a, ps, _, _, hq, e, rfl⟩, fun pre b g e hpp hr _ => ?_⟩
            · rw [hq]
              refine ifs rfl (Sha.Ev.bind (rencode_ev hq) (ifs (by rw [e]) (Sha.Ev.pure _)))
            · obtain ⟨_, _, x1, x2⟩ := parts e hpp (by have := (right_has hr).2.2.2.2.1; omega) ev
              rw [x1, x2]
          · refine ⟨Zr, enter (ifn c3 (Sha.Ev.bind (rright_ev kind a ps _ _ hl) ?_)), Or.inl rfl, fun pre b g e2 hpp hr he => ?_⟩
            · rw [hq]
              refine ifs rfl (Sha.Ev.bind (rencode_ev hq) (ifn (fun z => e ((toList_eq _ _).1 z)) (Sha.Ev.pure _)))
            · obtain ⟨_, _, x1, x2⟩ := parts e2 hpp (by have := (right_has hr).2.2.2.2.1; omega) ev
              rw [x1, x2] at e
              exact absurd he e
theorem rl0_step (s : ByteArray) (hs : s.size ≤ 100000) (h36 : 36 ≤ s.size) (p i : Int) (hp0 : 0 ≤ p) (hi0 : 0 ≤ i) (hi : i < bt s 35) (hp : p + 32 ≤ s.size) (kind : Int) (a : ByteArray) (ps : List ByteArray) (b0 g0 : ByteArray) (hl : ps.length ≤ 255) (k : Nat) :
    palaverref06_Decode.l0 (k + 1) s p i kind a ps b0 g0 = palaverref06_Decode.l0 k s (p + 32) (i + 1) kind a (ps ++ [s.extract p.toNat (p + 32).toNat]) b0 g0 := by
  have := bt_range s 35
  simp only [palaverref06_Decode.l0, wbt]
  rw [w64 (n := p + 32) (by omega) (by omega), w64 (n := i + 1) (by omega) (by omega)]
  rw [if_pos (by omega), if_pos hi, if_neg (by omega), if_pos hp0, if_pos (by omega), if_pos hp, if_pos (by omega)]
theorem rl0_ev (s : ByteArray) (hs : s.size ≤ 100000) (h36 : 36 ≤ s.size) (kind : Int) (a b0 g0 : ByteArray) : ∀ (m : Nat) (i p : Int) (ps : List ByteArray), 0 ≤ i → bt s 35 - i ≤ m → 0 ≤ p → p ≤ (s.size : Int) → ps.length + m ≤ 255 →
    ∃ r, Sha.Ev (fun k => palaverref06_Decode.l0 k s p i kind a ps b0 g0) r ∧ Good s r
  | 0, i, p, ps, h0, h1, hp, hp2, ht => by
    obtain ⟨r, hr, hg, _⟩ := rfin s hs h36 p i hp hp2 (by omega) kind a ps b0 g0 (by omega)
    exact ⟨r, hr, hg⟩
  | m + 1, i, p, ps, h0, h1, hp, hp2, ht => by
    by_cases c : i < bt s 35
    · by_cases c2 : p + 32 ≤ (s.size : Int)
      · obtain ⟨r, hr, hg⟩ := rl0_ev s hs h36 kind a b0 g0 m (i + 1) (p + 32) (ps ++ [s.extract p.toNat (p + 32).toNat]) (by omega) (by omega) (by omega) (by omega) (by simp; omega)
        exact ⟨r, Sha.Ev.succ (fun k => rl0_step s hs h36 p i hp h0 c c2 kind a ps b0 g0 (by omega) k) hr, hg⟩
      · refine ⟨Zr, Sha.Ev.succ (fun k => palaverref06_Decode.l0.eq_2 s p i kind a ps b0 g0 k) (ifs (by omega) (ifs (by rw [wbt]; exact c) (ifs (by rw [w64 (by omega) (by omega)]; omega) (Sha.Ev.pure _)))), Or.inl rfl⟩
    · obtain ⟨r, hr, hg, _⟩ := rfin s hs h36 p i hp hp2 c kind a ps b0 g0 (by omega)
      exact ⟨r, hr, hg⟩
theorem rl0_back (s : ByteArray) (hs : s.size ≤ 100000) (h36 : 36 ≤ s.size) (kind : Int) (a b0 g0 b g : ByteArray) : ∀ (l : List ByteArray) (pre : ByteArray) (i : Int) (ps : List ByteArray), 0 ≤ i → bt s 35 = i + l.length → ps.length + l.length ≤ 255 → s = pre ++ (catI l ++ (lay b ++ lay g)) → (∀ i, i < l.length → (at_ l i).size = 32) →
    rightB kind a (ps ++ l) b g = true → enc kind a (ps ++ l) b g = s → Sha.Ev (fun k => palaverref06_Decode.l0 k s (pre.size : Int) i kind a ps b0 g0) (kind, a, ps ++ l, b, g, true)
  | [], pre, i, ps, h0, hn, ht, he, hl, hr, hee => by
    rw [List.append_nil] at hr hee ⊢
    have e : s = pre ++ (lay b ++ lay g) := by rw [he, show catI [] ++ (lay b ++ lay g) = lay b ++ lay g from nil_app _]
    obtain ⟨r, h1, _, h3⟩ := rfin s hs h36 (pre.size : Int) i (by omega) (by rw [e, app_size]; omega) (by simp at hn; omega) kind a ps b0 g0 (by omega)
    rw [← h3 pre b g e rfl hr hee]
    exact h1
  | t :: l, pre, i, ps, h0, hn, ht, he, hl, hr, hee => by
    have hz := hl 0 (by simp)
    rw [at_cons_zero] at hz
    have e : s = pre ++ (t ++ (catI l ++ (lay b ++ lay g))) := by rw [he, show catI (t :: l) ++ (lay b ++ lay g) = t ++ (catI l ++ (lay b ++ lay g)) from app_assoc _ _ _]
    have ih := rl0_back s hs h36 kind a b0 g0 b g l (pre ++ t) (i + 1) (ps ++ [t]) (by omega) (by simp at hn; omega) (by simp at ht ⊢; omega) (by rw [e, app_assoc]) (fun i hi => by have := hl (i + 1) (by simp; omega); rwa [at_cons_succ] at this) (by rw [List.append_assoc]; exact hr) (by rw [List.append_assoc]; exact hee)
    have hp : (pre.size : Int) + 32 ≤ (s.size : Int) := by rw [e, app_size, app_size]; omega
    have hx : s.extract (pre.size : Int).toNat ((pre.size : Int) + 32).toNat = t := by
      rw [e]
      exact ext_mid _ _ _ _ _ (by omega) (by omega)
    refine Sha.Ev.succ (fun k => rl0_step s hs h36 _ i (by omega) h0 (by simp at hn; omega) hp kind a ps b0 g0 (by simp at ht; omega) k) ?_
    rw [hx, show (pre.size : Int) + 32 = ((pre ++ t).size : Int) by rw [app_size]; omega]
    rw [List.append_assoc] at ih
    exact ih
/-! the whole -/
theorem rdecode_sound (s : ByteArray) (hs : s.size ≤ 100000) : ∃ r, Sha.Ev (fun k => palaverref06_Decode.f k s) r ∧ Good s r := by
  unfold palaverref06_Decode.f
  by_cases c : (s.size : Int) < 36
  · exact ⟨Zr, ifs c (j0_no s), Or.inl rfl⟩
  · cases x : ((s.extract 1 3).toList != ([0, 32] : List UInt8))
    · have := bt_range s 35
      obtain ⟨r, hr, hg⟩ := rl0_ev s hs (by omega) (wrap64 (bt s 0)) (s.extract 3 35) ⟨#[]⟩ ⟨#[]⟩ (bt s 35).toNat 0 36 [] (by omega) (by omega) (by omega) (by omega) (by simp; omega)
      refine ⟨r, ifn c (ifs (by decide) (ifs (by omega) ?_)), hg⟩
      exact Sha.Ev.succ (fun k => palaverref06_Decode.j0.eq_2 s false k) (ifn (by decide) (ifs (by omega) (ifs (by decide) (ifs (by omega) hr))))
    · exact ⟨Zr, ifn c (ifs (by decide) (ifs (by omega) (j0_no s))), Or.inl rfl⟩
theorem rdecode_back {kind : Int} {a : ByteArray} {ps : List ByteArray} {b g : ByteArray} (h : rightB kind a ps b g = true) (hs : (enc kind a ps b g).size ≤ 100000) : Sha.Ev (fun k => palaverref06_Decode.f k (enc kind a ps b g)) (kind, a, ps, b, g, true) := by
  obtain ⟨k1, k2, h3, h4, h5, h6, h7⟩ := right_has h
  have hz : (enc kind a ps b g).size = 40 + ps.length * 32 + b.size + g.size := by
    unfold enc
    rw [app_size, cont_size h, lay_size]
    omega
  have ea : lay a = strOfNums [0, 32] ++ a := by unfold lay; rw [h3]; rfl
  have z2 : (strOfNums [0, 32]).size = 2 := by rw [strOfNums_size]; rfl
  have f1 : (enc kind a ps b g).extract 1 3 = strOfNums [0, 32] := by
    rw [enc_eq, ea, app_assoc]
    exact ext_mid _ _ _ _ _ (by rw [one_size]) (by rw [one_size, z2])
  have f2 : (enc kind a ps b g).extract 3 35 = a := by
    rw [enc_eq, ea, app_assoc, ← app_assoc (one kind)]
    exact ext_mid _ _ _ _ _ (by rw [app_size, one_size, z2]) (by rw [app_size, one_size, z2, h3])
  have f3 : bt (enc kind a ps b g) 0 = kind := by
    have := bt_mid ⟨#[]⟩ (lay a ++ (one ps.length ++ (catI ps ++ (lay b ++ lay g)))) kind (by omega) (by omega)
    rw [nil_app] at this
    rw [enc_eq]
    exact this
  have f4 : bt (enc kind a ps b g) 35 = ps.length := by
    have := bt_mid (one kind ++ lay a) (catI ps ++ (lay b ++ lay g)) ps.length (by omega) (by omega)
    rw [show (((one kind ++ lay a).size : Nat) : Int) = 35 by rw [app_size, one_size, lay_size, h3]; rfl, app_assoc] at this
    rw [enc_eq]
    exact this
  have f5 : (enc kind a ps b g) = ((one kind ++ lay a) ++ one ps.length) ++ (catI ps ++ (lay b ++ lay g)) := by
    rw [enc_eq]
    simp only [app_assoc]
  have f6 : ((((one kind ++ lay a) ++ one ps.length).size : Nat) : Int) = 36 := by rw [app_size, app_size, one_size, one_size, lay_size, h3]; rfl
  have := rl0_back (enc kind a ps b g) hs (by omega) kind a ⟨#[]⟩ ⟨#[]⟩ b g ps ((one kind ++ lay a) ++ one ps.length) 0 [] (by omega) (by rw [f4]; omega) (by simp; omega) f5 h7 h rfl
  rw [f6] at this
  unfold palaverref06_Decode.f
  refine ifn (by omega) (ifs (by decide) (ifs (by omega) ?_))
  rw [f1, show ((strOfNums [0, 32]).toList != ([0, 32] : List UInt8)) = false by rw [ByteArray.toList_eq]; rfl]
  refine Sha.Ev.succ (fun k => palaverref06_Decode.j0.eq_2 _ false k) (ifn (by decide) (ifs (by omega) (ifs (by decide) (ifs (by omega) ?_))))
  rw [f2, f3, w64 (by omega) (by omega)]
  exact this
end Go.Proofs.YtmedpnclkbkiiaaDoor.Oct.Evt
