/-
  Trees: roots, paths; a leaf's path leads to the root; the document's example.
  Conditions: none.
-/
import Derived.Test.YtnfbagkeenjifaaGreatDoorMrk1
import Derived.Test.YtnfbagkeenjifaaGreatDoorPPx1
import Derived.Test.YtnfbagkeenjifaaGreatDoorPPx3
namespace Go.Proofs.YtnfbagkeenjifaaGreatDoor.Sha
open Go.RowKit Go.Proofs.YtnfbagkeenjifaaGreatDoor.PP Go.Proofs.YtnfbagkeenjifaaGreatDoorW.PrintWords Go.Proofs.YtnfbagkeenjifaaGreatDoorW.PrintLast Go.Proofs.YtnfbagkeenjifaaGreatDoorW.PrintMore
set_option linter.unusedSimpArgs false
set_option linter.unusedVariables false

theorem p2 (h : Nat) (hh : h ≤ 4) : 1 ≤ 2 ^ h ∧ 2 ^ h ≤ 16 := by
  have : h = 0 ∨ h = 1 ∨ h = 2 ∨ h = 3 ∨ h = 4 := by omega
  rcases this with rfl | rfl | rfl | rfl | rfl <;> decide
theorem leaves_eq (n : Nat) (h0 : 1 ≤ n) (h1 : n ≤ 16) : merkle_leaves.f (n : Int) = some (decide (n = 1 ∨ n = 2 ∨ n = 4 ∨ n = 8 ∨ n = 16)) := by
  have : n = 1 ∨ n = 2 ∨ n = 3 ∨ n = 4 ∨ n = 5 ∨ n = 6 ∨ n = 7 ∨ n = 8 ∨ n = 9 ∨ n = 10 ∨ n = 11 ∨ n = 12 ∨ n = 13 ∨ n = 14 ∨ n = 15 ∨ n = 16 := by omega
  rcases this with rfl | rfl | rfl | rfl | rfl | rfl | rfl | rfl | rfl | rfl | rfl | rfl | rfl | rfl | rfl | rfl <;> decide +kernel
/-! roots -/
def Rt : Nat → List ByteArray → ByteArray
  | 0, l => rdOf ByteArray.empty l 0
  | h + 1, l => tg [Rt h (l.take (2 ^ h)), Rt h (l.drop (2 ^ h))]
theorem Rt_one (h : Nat) (l : List ByteArray) : Rt (h + 1) l = tg [Rt h (l.take (2 ^ h)), Rt h (l.drop (2 ^ h))] := rfl
theorem Rt_size (h : Nat) (l : List ByteArray) (hl : l.length = 2 ^ h) (hs : ∀ s ∈ l, s.size ≤ 300) : (Rt h l).size ≤ 300 := by
  cases h with
  | zero =>
    have hj : 0 < l.length := by rw [hl]; decide
    have e : Rt 0 l = l[0] := at_get l 0 hj
    rw [e]
    exact hs _ (List.getElem_mem hj)
  | succ h =>
    rw [Rt_one]
    unfold tg
    rw [dig_size]
    decide
theorem root_ev : ∀ (h : Nat) (l : List ByteArray), h ≤ 4 → l.length = 2 ^ h → (∀ s ∈ l, s.size ≤ 300) → Sha.Ev (fun k => merkle_root.f k l) (Rt h l)
  | 0, l, hh, hl, hs => by
    have hj : l.length = 1 := hl
    refine Ev.succ (G := fun _ => some (Rt 0 l)) (fun k => ?_) (Ev.pure _)
    simp only [merkle_root.f]
    rw [if_pos (by omega), if_pos (by omega)]
    rfl
  | h + 1, l, hh, hl, hs => by
    have hp := p2 h (by omega)
    have hl2 : l.length = 2 * 2 ^ h := by rw [hl, Nat.pow_succ]; omega
    have e : (wrap64 ((l.length : Int) / 2) : Int) = ((2 ^ h : Nat) : Int) := by rw [w64 (by omega) (by omega)]; omega
    have h1 := root_ev h (l.take (2 ^ h)) (by omega) (by rw [List.length_take]; omega) (fun s z => hs s (List.mem_of_mem_take z))
    have h2 := root_ev h (l.drop (2 ^ h)) (by omega) (by rw [List.length_drop]; omega) (fun s z => hs s (List.mem_of_mem_drop z))
    have s1 := Rt_size h (l.take (2 ^ h)) (by rw [List.length_take]; omega) (fun s z => hs s (List.mem_of_mem_take z))
    have s2 := Rt_size h (l.drop (2 ^ h)) (by rw [List.length_drop]; omega) (fun s z => hs s (List.mem_of_mem_drop z))
    have ht := tag_ev [Rt h (l.take (2 ^ h)), Rt h (l.drop (2 ^ h))] (by
      intro s z
      simp only [List.mem_cons, List.not_mem_nil, or_false] at z
      rcases z with rfl | rfl <;> omega) (by simp)
    rw [Rt_one]
    refine Ev.succ (fun k => ?_) (Ev.bind h1 (Ev.bind h2 (Ev.bind ht (Ev.pure _)))) (G := fun k => (merkle_root.f k (l.take (2 ^ h))).bind fun t => (merkle_root.f k (l.drop (2 ^ h))).bind fun u => (sha_Tag.f k 4 [t, u]).bind fun z => some z)
    simp only [merkle_root.f, e, Int.toNat_natCast]
    rw [if_neg (by omega), if_pos (by omega), if_pos (by omega)]
/-! paths -/
def Bk (l : List ByteArray) (t j : Nat) : List ByteArray := (l.take (j * 2 ^ t + 2 ^ t)).drop (j * 2 ^ t)
def sib (m : Nat) : Nat := if m % 2 = 0 then m + 1 else m - 1
theorem xor_one (m : Nat) (h : m < 16) : Go.bits .xor .i64 (m : Int) 1 = ((sib m : Nat) : Int) := by
  have : m = 0 ∨ m = 1 ∨ m = 2 ∨ m = 3 ∨ m = 4 ∨ m = 5 ∨ m = 6 ∨ m = 7 ∨ m = 8 ∨ m = 9 ∨ m = 10 ∨ m = 11 ∨ m = 12 ∨ m = 13 ∨ m = 14 ∨ m = 15 := by omega
  rcases this with rfl | rfl | rfl | rfl | rfl | rfl | rfl | rfl | rfl | rfl | rfl | rfl | rfl | rfl | rfl | rfl <;> decide +kernel
theorem Bk_len (l : List ByteArray) (t j : Nat) (h : j * 2 ^ t + 2 ^ t ≤ l.length) : (Bk l t j).length = 2 ^ t := by
  unfold Bk
  rw [List.length_drop, List.length_take]
  generalize j * 2 ^ t = a at *
  generalize 2 ^ t = b at *
  omega
theorem Bk_mem (l : List ByteArray) (t j : Nat) (hs : ∀ s ∈ l, s.size ≤ 300) : ∀ s ∈ Bk l t j, s.size ≤ 300 := fun s z => hs s (List.mem_of_mem_take (List.mem_of_mem_drop z))
theorem Bk_left (l : List ByteArray) (t j : Nat) : (Bk l (t + 1) j).take (2 ^ t) = Bk l t (2 * j) := by
  unfold Bk
  rw [List.take_drop, List.take_take, Nat.pow_succ]
  have e : j * (2 ^ t * 2) = 2 * j * 2 ^ t := by rw [Nat.mul_comm (2 ^ t) 2, ← Nat.mul_assoc, Nat.mul_comm j 2]
  rw [e]
  congr 2
  omega
theorem Bk_right (l : List ByteArray) (t j : Nat) : (Bk l (t + 1) j).drop (2 ^ t) = Bk l t (2 * j + 1) := by
  unfold Bk
  rw [List.drop_drop, Nat.pow_succ]
  have e : j * (2 ^ t * 2) = 2 * j * 2 ^ t := by rw [Nat.mul_comm (2 ^ t) 2, ← Nat.mul_assoc, Nat.mul_comm j 2]
  have e2 : (2 * j + 1) * 2 ^ t = 2 * j * 2 ^ t + 2 ^ t := by rw [Nat.add_mul, Nat.one_mul]
  rw [e, e2]
  congr 2 <;> omega
def Pt (l : List ByteArray) (i : Nat) : Nat → Nat → List ByteArray
  | 0, _ => []
  | d + 1, t => Rt t (Bk l t (sib (i / 2 ^ t))) :: Pt l i d (t + 1)
theorem Pt_one (l : List ByteArray) (i d t : Nat) : Pt l i (d + 1) t = Rt t (Bk l t (sib (i / 2 ^ t))) :: Pt l i d (t + 1) := rfl
theorem sib_lt (m d : Nat) (h : m < 2 ^ (d + 1)) : sib m < 2 ^ (d + 1) := by
  unfold sib
  rw [Nat.pow_succ] at *
  split <;> omega
theorem div_lt (i h t : Nat) (ht : t ≤ h) (hi : i < 2 ^ h) : i / 2 ^ t < 2 ^ (h - t) := by
  rw [Nat.div_lt_iff_lt_mul (Nat.pow_pos (by decide)), ← Nat.pow_add, Nat.sub_add_cancel ht]
  exact hi
theorem path_step (l : List ByteArray) (i : Nat) (o : List ByteArray) (n m a : Nat) (hn : 1 ≤ n) (h16 : l.length ≤ 16) (hlt : n < l.length) (hi : i ≤ 16) (hm : i / n = m) (hm16 : m < 16) (ha : sib m * n = a) (hab : a + n ≤ l.length) (ho : o.length ≤ 10) (k : Nat) :
    merkle_Path.l0 (k + 1) l (i : Int) o (n : Int) = (merkle_root.f k ((l.take (a + n)).drop a)).bind fun z => if o.length < 8796093022208 then merkle_Path.l0 k l (i : Int) (o ++ [z]) ((n * 2 : Nat) : Int) else none := by
  have td : Int.tdiv (i : Int) (n : Int) = (m : Int) := by
    rw [Int.tdiv_eq_ediv_of_nonneg (Int.natCast_nonneg _), ← hm, Int.natCast_ediv]
  have m1 : ((sib m : Nat) : Int) * (n : Int) = (a : Int) := by rw [← ha, Int.natCast_mul]
  clear hm ha
  have w3 : wrap64 ((a : Int) + (n : Int)) = ((a + n : Nat) : Int) := by
    rw [w64 (by omega) (by omega), Int.natCast_add]
  have w4 : wrap64 ((n : Int) * 2) = ((n * 2 : Nat) : Int) := by
    clear w3
    rw [w64 (by omega) (by omega), Int.natCast_mul]
    rfl
  have w1 : wrap64 (m : Int) = (m : Int) := by
    clear w3 w4
    exact w64 (by omega) (by omega)
  have w2 : wrap64 (a : Int) = (a : Int) := by
    clear w1 w3 w4
    exact w64 (by omega) (by omega)
  have c1 : (n : Int) < (l.length : Int) := by
    clear w1 w2 w3 w4
    omega
  have c2 : ¬ ((n : Int) = 0) := by
    clear w1 w2 w3 w4
    omega
  have c3 : (0 : Int) ≤ (a : Int) := Int.natCast_nonneg a
  have c4 : (a : Int) ≤ ((a + n : Nat) : Int) := by
    clear w1 w2 w3 w4
    omega
  have c5 : ((a + n : Nat) : Int) ≤ (l.length : Int) := by
    clear w1 w2 w3 w4
    omega
  have x1 := xor_one m hm16
  rw [merkle_Path.l0, if_pos c1, if_neg c2, td, w1, x1, m1, w2, w3, w4, if_pos c3, if_pos c4, if_pos c5, Int.toNat_natCast, Int.toNat_natCast]
theorem path_l (l : List ByteArray) (h : Nat) (hh : h ≤ 4) (hl : l.length = 2 ^ h) (hs : ∀ s ∈ l, s.size ≤ 300) (i : Nat) (hi : i < 2 ^ h) : ∀ (d t : Nat) (o : List ByteArray), t + d = h → o.length ≤ t → Sha.Ev (fun k => merkle_Path.l0 k l (i : Int) o ((2 ^ t : Nat) : Int)) (o ++ Pt l i d t, true)
  | 0, t, o, ht, ho => by
    have e : t = h := by omega
    subst e
    refine Ev.succ (G := fun _ => some (o, true)) (fun k => ?_) ?_
    · rw [merkle_Path.l0, if_neg (by omega)]
    · show Sha.Ev _ (o ++ [], true)
      rw [List.append_nil]
      exact Ev.pure _
  | d + 1, t, o, ht, ho => by
    have hp := p2 t (by omega)
    have hph := p2 h hh
    have hlt : 2 ^ t < l.length := by rw [hl]; exact Nat.pow_lt_pow_right (by decide) (by omega)
    have hm := div_lt i h t (by omega) hi
    have hdl : 2 ^ (h - t) ≤ 16 := (p2 (h - t) (by omega)).2
    have hsb : sib (i / 2 ^ t) < 2 ^ (h - t) := by
      have e : h - t = (h - t - 1) + 1 := by omega
      rw [e] at hm ⊢
      exact sib_lt _ _ hm
    have hin : sib (i / 2 ^ t) * 2 ^ t + 2 ^ t ≤ l.length := by
      rw [hl]
      have : (sib (i / 2 ^ t) + 1) * 2 ^ t ≤ 2 ^ (h - t) * 2 ^ t := Nat.mul_le_mul_right _ hsb
      rw [← Nat.pow_add, Nat.sub_add_cancel (by omega), Nat.add_mul, Nat.one_mul] at this
      exact this
    have hr := root_ev t (Bk l t (sib (i / 2 ^ t))) (by omega) (Bk_len l t _ hin) (Bk_mem l t _ hs)
    have ih := path_l l h hh hl hs i hi d (t + 1) (o ++ [Rt t (Bk l t (sib (i / 2 ^ t)))]) (by omega) (by rw [List.length_append]; simp; omega)
    rw [List.append_assoc, Nat.pow_succ] at ih
    rw [Pt_one]
    exact Ev.succ (path_step l i o (2 ^ t) (i / 2 ^ t) _ hp.1 (by rw [hl]; exact hph.2) hlt (by omega) rfl (by omega) rfl hin (by omega)) (Ev.bind hr (ifs (show o.length < 8796093022208 by omega) ih))
theorem path_ev (l : List ByteArray) (h : Nat) (hh : h ≤ 4) (hl : l.length = 2 ^ h) (hs : ∀ s ∈ l, s.size ≤ 300) (i : Nat) (hi : i < 2 ^ h) (hv : merkle_leaves.f (l.length : Int) = some true) : Sha.Ev (fun k => merkle_Path.f k l (i : Int)) (Pt l i h 0, true) := by
  have := path_l l h hh hl hs i hi h 0 [] (by omega) (by simp)
  unfold merkle_Path.f
  rw [hv]
  simp only [Option.bind_some]
  refine ifs trivial (ifn (by omega) ?_)
  rw [decide_eq_false (by omega)]
  refine Ev.succ (fun k => ?_) this
  simp only [merkle_Path.j0]
  rw [if_neg (by decide)]
  rfl
/-- A leaf's path leads to the root. -/
theorem fold_path (l : List ByteArray) (h : Nat) (hl : l.length = 2 ^ h) (i : Nat) (hi : i < 2 ^ h) : ∀ (d t : Nat), t + d = h → Fo (Pt l i d t) ((i / 2 ^ t : Nat) : Int) (Rt t (Bk l t (i / 2 ^ t))) = Rt h l
  | 0, t, ht => by
    have e : t = h := by omega
    subst e
    rw [Nat.div_eq_of_lt hi]
    show Rt t (Bk l t 0) = Rt t l
    unfold Bk
    rw [Nat.zero_mul, Nat.zero_add, List.drop_zero, List.take_of_length_le (by omega)]
  | d + 1, t, ht => by
    rw [Pt_one]
    show Fo (Pt l i d (t + 1)) (((i / 2 ^ t : Nat) : Int) / 2) (tg (pr ((i / 2 ^ t : Nat) : Int) (Rt t (Bk l t (i / 2 ^ t))) (Rt t (Bk l t (sib (i / 2 ^ t)))))) = _
    have ih := fold_path l h hl i hi d (t + 1) (by omega)
    have e1 : i / 2 ^ (t + 1) = i / 2 ^ t / 2 := by rw [Nat.pow_succ, Nat.div_div_eq_div_mul]
    have e2 : (((i / 2 ^ t : Nat) : Int) / 2) = ((i / 2 ^ (t + 1) : Nat) : Int) := by rw [e1]; omega
    have e3 : tg (pr ((i / 2 ^ t : Nat) : Int) (Rt t (Bk l t (i / 2 ^ t))) (Rt t (Bk l t (sib (i / 2 ^ t))))) = Rt (t + 1) (Bk l (t + 1) (i / 2 ^ (t + 1))) := by
      rw [Rt_one, Bk_left, Bk_right, e1]
      generalize i / 2 ^ t = m
      congr 1
      unfold pr sib
      by_cases c : m % 2 = 0
      · rw [if_neg (by omega), if_pos c, show 2 * (m / 2) = m by omega]
      · rw [if_pos (by omega), if_neg c, show 2 * (m / 2) = m - 1 by omega, show m - 1 + 1 = m by omega]
    rw [e2, e3]
    exact ih
theorem Pt_len (l : List ByteArray) (i : Nat) : ∀ (d t : Nat), (Pt l i d t).length = d
  | 0, _ => rfl
  | d + 1, t => by rw [Pt_one, List.length_cons, Pt_len l i d (t + 1)]
theorem Pt_mem (l : List ByteArray) (h : Nat) (hl : l.length = 2 ^ h) (hs : ∀ s ∈ l, s.size ≤ 300) (i : Nat) (hi : i < 2 ^ h) : ∀ (d t : Nat), t + d = h → ∀ s ∈ Pt l i d t, s.size ≤ 300
  | 0, _, _ => by intro s z; cases z
  | d + 1, t, ht => by
    intro s z
    rw [Pt_one] at z
    rcases List.mem_cons.1 z with rfl | z
    · have hm := div_lt i h t (by omega) hi
      have hsb : sib (i / 2 ^ t) < 2 ^ (h - t) := by
        have e : h - t = (h - t - 1) + 1 := by omega
        rw [e] at hm ⊢
        exact sib_lt _ _ hm
      have hin : sib (i / 2 ^ t) * 2 ^ t + 2 ^ t ≤ l.length := by
        rw [hl]
        have : (sib (i / 2 ^ t) + 1) * 2 ^ t ≤ 2 ^ (h - t) * 2 ^ t := Nat.mul_le_mul_right _ hsb
        rw [← Nat.pow_add, Nat.sub_add_cancel (by omega), Nat.add_mul, Nat.one_mul] at this
        exact this
      exact Rt_size t _ (Bk_len l t _ hin) (Bk_mem l t _ hs)
    · exact Pt_mem l h hl hs i hi d (t + 1) (by omega) s z
end Go.Proofs.YtnfbagkeenjifaaGreatDoor.Sha
