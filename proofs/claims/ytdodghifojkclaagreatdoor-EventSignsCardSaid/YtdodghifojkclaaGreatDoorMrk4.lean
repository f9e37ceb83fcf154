/-
  Trees: the document's levels, its root and its paths are the program's.
  Conditions: none.
-/
import Derived.Test.YtdodghifojkclaaGreatDoorMrk
import Derived.Test.YtdodghifojkclaaGreatDoorPPx3
namespace Go.Proofs.YtdodghifojkclaaGreatDoor.Sha
open Go.RowKit Go.Proofs.YtdodghifojkclaaGreatDoor.PP Go.Proofs.YtdodghifojkclaaGreatDoorW.PrintWords Go.Proofs.YtdodghifojkclaaGreatDoorW.PrintLast Go.Proofs.YtdodghifojkclaaGreatDoorW.PrintMore
set_option linter.unusedSimpArgs false
set_option linter.unusedVariables false

def Up (m : List ByteArray) : List ByteArray := (List.range (m.length / 2)).map fun j => tg [at_ m (2 * j), at_ m (2 * j + 1)]
theorem Up_len (m : List ByteArray) : (Up m).length = m.length / 2 := by
  unfold Up
  rw [List.length_map, List.length_range]
theorem Up_at (m : List ByteArray) (j : Nat) (h : j < m.length / 2) : at_ (Up m) j = tg [at_ m (2 * j), at_ m (2 * j + 1)] := by
  unfold at_
  rw [at_get (Up m) j (by rw [Up_len]; exact h)]
  unfold Up
  rw [List.getElem_map, List.getElem_range]
  rfl
def Lev : Nat → List ByteArray → List ByteArray
  | 0, l => l
  | t + 1, l => Up (Lev t l)
theorem Lev_one (t : Nat) (l : List ByteArray) : Lev (t + 1) l = Up (Lev t l) := rfl
theorem pw_half (h t : Nat) (ht : t + 1 ≤ h) : 2 ^ (h - t) / 2 = 2 ^ (h - (t + 1)) := by
  rw [show h - t = (h - (t + 1)) + 1 by omega, Nat.pow_succ]
  exact Nat.mul_div_cancel _ (by decide)
theorem Lev_len (l : List ByteArray) (h : Nat) (hl : l.length = 2 ^ h) : ∀ t, t ≤ h → (Lev t l).length = 2 ^ (h - t)
  | 0, _ => hl
  | t + 1, ht => by
    rw [Lev_one, Up_len, Lev_len l h hl t (by omega), pw_half h t ht]
theorem Lev_mem (l : List ByteArray) (hs : ∀ s ∈ l, s.size ≤ 300) : ∀ t, ∀ s ∈ Lev t l, s.size ≤ 300
  | 0 => hs
  | t + 1 => by
    intro s z
    rw [Lev_one] at z
    unfold Up at z
    obtain ⟨j, _, rfl⟩ := List.mem_map.1 z
    exact tg_size _
theorem Lev_at (l : List ByteArray) (h : Nat) (hl : l.length = 2 ^ h) : ∀ t, t ≤ h → ∀ j, j < 2 ^ (h - t) → at_ (Lev t l) j = Rt t (Bk l t j)
  | 0, _, j, hj => by
    have hj2 : j < l.length := by rw [hl]; exact hj
    rw [Bk_one l j hj2]
    exact at_get l j hj2
  | t + 1, ht, j, hj => by
    have hp := pw_half h t ht
    have hll := Lev_len l h hl t (by omega)
    have hd : 2 * 2 ^ (h - (t + 1)) = 2 ^ (h - t) := by
      rw [show h - t = (h - (t + 1)) + 1 by omega, Nat.pow_succ]
      exact Nat.mul_comm _ _
    rw [Lev_one, Up_at (Lev t l) j (by rw [hll, hp]; exact hj), Lev_at l h hl t (by omega) (2 * j) (by omega), Lev_at l h hl t (by omega) (2 * j + 1) (by omega), Rt_one, Bk_left, Bk_right]
def Lvs (l : List ByteArray) : Nat → Nat → List (List ByteArray)
  | 0, _ => []
  | d + 1, t => Lev (t + 1) l :: Lvs l d (t + 1)
theorem Lvs_len (l : List ByteArray) : ∀ d t, (Lvs l d t).length = d
  | 0, _ => rfl
  | d + 1, t => by
    show (Lvs l d (t + 1)).length + 1 = d + 1
    rw [Lvs_len l d (t + 1)]
theorem Lvs_get (l : List ByteArray) : ∀ (d t q : Nat), q ≤ d → (Lev t l :: Lvs l d t).getD q [] = Lev (t + q) l
  | d, t, 0, _ => rfl
  | 0, t, q + 1, h => by omega
  | d + 1, t, q + 1, h => by
    show (Lev (t + 1) l :: Lvs l d (t + 1)).getD q [] = _
    rw [Lvs_get l d (t + 1) q (by omega), show t + (q + 1) = t + 1 + q by omega]
theorem lv_in (m : List ByteArray) (c : Nat) (hm : m.length = 2 * c) (hc : c ≤ 8) (hs : ∀ s ∈ m, s.size ≤ 300) (out : List (List ByteArray)) (ho : out.length ≤ 10) (v : List (List ByteArray)) (hv : Sha.Ev (fun k => Jg.l0 k (Up m) (out ++ [Up m])) v) :
    ∀ (d j : Nat), j + d = c → Sha.Ev (fun k => Jg.l1 k m out ((Up m).take j) ((2 * j : Nat) : Int)) v := by
  have hul : (Up m).length = c := by rw [Up_len, hm]; omega
  intro d
  induction d with
  | zero =>
    intro j hj
    have hw : wrap64 (((2 * j : Nat) : Int) + 1) = ((2 * j + 1 : Nat) : Int) := by rw [w64 (by omega) (by omega)]; omega
    rw [List.take_of_length_le (by omega)]
    refine Ev.succ (fun k => ?_) hv
    simp only [Jg.l1, hw]
    rw [if_neg (by omega), if_pos (by omega)]
  | succ d ih =>
    intro j hj
    have h2 := ih (j + 1) (by omega)
    have hw : wrap64 (((2 * j : Nat) : Int) + 1) = ((2 * j + 1 : Nat) : Int) := by rw [w64 (by omega) (by omega)]; omega
    have hw2 : wrap64 (((2 * j : Nat) : Int) + 2) = ((2 * (j + 1) : Nat) : Int) := by rw [w64 (by omega) (by omega)]; omega
    have ht := rtag_ev [at_ m (2 * j), at_ m (2 * j + 1)] (by
      intro s z
      simp only [List.mem_cons, List.not_mem_nil, or_false] at z
      rcases z with rfl | rfl
      · have := hs _ (at_in m (2 * j) (by omega)); omega
      · have := hs _ (at_in m (2 * j + 1) (by omega)); omega) (by simp)
    have hu : (Up m).take j ++ [tg [at_ m (2 * j), at_ m (2 * j + 1)]] = (Up m).take (j + 1) := by
      rw [List.take_succ_eq_append_getElem (by omega), ← Up_at m j (by omega)]
      unfold at_
      rw [at_get (Up m) j (by omega)]
    rw [← hu] at h2
    have htl : ((Up m).take j).length < 8796093022208 := by rw [List.length_take]; omega
    refine Ev.succ (G := fun k => (Jo.f k 4 [at_ m (2 * j), at_ m (2 * j + 1)]).bind fun t => (if ((Up m).take j).length < 8796093022208 then (Jg.l1 k m out ((Up m).take j ++ [t]) ((2 * (j + 1) : Nat) : Int)) else none)) (fun k => ?_) (Ev.bind ht (ifs htl h2))
    simp only [Jg.l1, hw, hw2]
    rw [if_pos (by omega), if_pos (by omega), if_pos (by omega), if_pos (by omega)]
    rfl
theorem lv_out (l : List ByteArray) (h : Nat) (hh : h ≤ 4) (hl : l.length = 2 ^ h) (hs : ∀ s ∈ l, s.size ≤ 300) : ∀ (d t : Nat) (out : List (List ByteArray)), t + d = h → out.length ≤ t + 1 → Sha.Ev (fun k => Jg.l0 k (Lev t l) out) (out ++ Lvs l d t)
  | 0, t, out, ht, ho => by
    have hll := Lev_len l h hl t (by omega)
    rw [show h - t = 0 by omega, Nat.pow_zero] at hll
    refine Ev.succ (G := fun _ => some out) (fun k => ?_) ?_
    · simp only [Jg.l0]
      rw [if_neg (by omega)]
    · show Sha.Ev _ (out ++ [])
      rw [List.append_nil]
      exact Ev.pure _
  | d + 1, t, out, ht, ho => by
    have hll := Lev_len l h hl t (by omega)
    have hp := pw_half h t (by omega)
    have hq := p2 (h - (t + 1)) (by omega)
    have hq2 := p2 (h - t) (by omega)
    have hev : (Lev t l).length = 2 * 2 ^ (h - (t + 1)) := by
      rw [hll, show h - t = (h - (t + 1)) + 1 by omega, Nat.pow_succ]
      exact Nat.mul_comm _ _
    have ih := lv_out l h hh hl hs d (t + 1) (out ++ [Lev (t + 1) l]) (by omega) (by rw [List.length_append]; simp; omega)
    rw [List.append_assoc] at ih
    have := lv_in (Lev t l) (2 ^ (h - (t + 1))) hev (by omega) (Lev_mem l hs t) out (by omega) _ ih (2 ^ (h - (t + 1))) 0 (by omega)
    refine Ev.succ (fun k => ?_) this
    simp only [Jg.l0]
    rw [if_pos (by omega)]
    rfl
theorem levels_ev (l : List ByteArray) (h : Nat) (hh : h ≤ 4) (hl : l.length = 2 ^ h) (hs : ∀ s ∈ l, s.size ≤ 300) : Sha.Ev (fun k => Jg.f k l) (Lev 0 l :: Lvs l h 0) :=
  lv_out l h hh hl hs h 0 [l] (by omega) (by simp)
theorem lv_rd (l : List ByteArray) (h q : Nat) (hq : q ≤ h) : rd_L4 (Lev 0 l :: Lvs l h 0) (q : Int) = Lev q l := by
  unfold rd_L4
  rw [show ((q : Nat) : Int).toNat = q by omega, Lvs_get l h 0 q hq, Nat.zero_add]
theorem Bk_all (l : List ByteArray) (h : Nat) (hl : l.length = 2 ^ h) : Bk l h 0 = l := by
  unfold Bk
  rw [Nat.zero_mul, Nat.zero_add, List.drop_zero, List.take_of_length_le (by omega)]
theorem rroot_ev (l : List ByteArray) (h : Nat) (hh : h ≤ 4) (hl : l.length = 2 ^ h) (hs : ∀ s ∈ l, s.size ≤ 300) : Sha.Ev (fun k => Ut.f k l) (Rt h l) := by
  have e : wrap64 (((Lev 0 l :: Lvs l h 0).length : Int) - 1) = (h : Int) := by
    rw [List.length_cons, Lvs_len, w64 (by omega) (by omega)]
    omega
  have hll := Lev_len l h hl h (Nat.le_refl _)
  rw [Nat.sub_self, Nat.pow_zero] at hll
  have ha := Lev_at l h hl h (Nat.le_refl _) 0 (by rw [Nat.sub_self]; decide)
  rw [Bk_all l h hl] at ha
  unfold Ut.f
  refine Ev.bind (levels_ev l h hh hl hs) ?_
  rw [e, lv_rd l h h (Nat.le_refl _)]
  refine ifs (by omega) (ifs (by rw [List.length_cons, Lvs_len]; omega) (ifs (by omega) ?_))
  rw [← ha]
  exact Ev.pure _
theorem tm2 (m : Nat) : Int.tmod (m : Int) 2 = (m : Int) % 2 := Int.tmod_eq_emod_of_nonneg (by omega)
theorem hf2 (m : Nat) (h : m ≤ 1000) : wrap64 (Int.tdiv (m : Int) 2) = ((m / 2 : Nat) : Int) := by
  rw [Int.tdiv_eq_ediv_of_nonneg (by omega), w64 (by omega) (by omega)]
  omega
theorem dn1 (m : Nat) (h : m ≤ 1000) : wrap64 ((m : Int) - 1) = (m : Int) - 1 := w64 (by omega) (by omega)
theorem rpath_l (l : List ByteArray) (h : Nat) (hh : h ≤ 4) (hl : l.length = 2 ^ h) (hs : ∀ s ∈ l, s.size ≤ 300) (i : Nat) (hi : i < 2 ^ h) : ∀ (d t : Nat) (o : List ByteArray), t + d = h → o.length ≤ t → Sha.Ev (fun k => Jz.l0 k ((i / 2 ^ t : Nat) : Int) (Lev 0 l :: Lvs l h 0) o (t : Int)) (o ++ Pt l i d t) := by
  have e : wrap64 (((Lev 0 l :: Lvs l h 0).length : Int) - 1) = (h : Int) := by
    rw [List.length_cons, Lvs_len, w64 (by omega) (by omega)]
    omega
  have el : (Lev 0 l :: Lvs l h 0).length = h + 1 := by rw [List.length_cons, Lvs_len]
  intro d
  induction d with
  | zero =>
    intro t o ht ho
    refine Ev.succ (G := fun _ => some o) (fun k => ?_) ?_
    · simp only [Jz.l0, e]
      rw [if_neg (by omega)]
    · show Sha.Ev _ (o ++ [])
      rw [List.append_nil]
      exact Ev.pure _
  | succ d ih =>
    intro t o ht ho
    have h2 := ih (t + 1) (o ++ [Rt t (Bk l t (sib (i / 2 ^ t)))]) (by omega) (by rw [List.length_append]; simp; omega)
    rw [List.append_assoc, show i / 2 ^ (t + 1) = i / 2 ^ t / 2 by rw [Nat.pow_succ, Nat.div_div_eq_div_mul]] at h2
    have hm := div_lt i h t (by omega) hi
    have hdl := p2 (h - t) (by omega)
    have hsb : sib (i / 2 ^ t) < 2 ^ (h - t) := by
      have e : h - t = (h - t - 1) + 1 := by omega
      rw [e] at hm ⊢
      exact sib_lt _ _ hm
    have ha := Lev_at l h hl t (by omega) (sib (i / 2 ^ t)) hsb
    have hll := Lev_len l h hl t (by omega)
    rw [Pt_one]
    generalize hM : i / 2 ^ t = m at *
    clear hM
    have hol : o.length < 8796093022208 := by omega
    have hr := lv_rd l h t (by omega)
    refine Ev.succ (fun k => ?_) (ifs hol h2) (G := fun k => if o.length < 8796093022208 then Jz.l0 k ((m / 2 : Nat) : Int) (Lev 0 l :: Lvs l h 0) (o ++ [Rt t (Bk l t (sib m))]) ((t + 1 : Nat) : Int) else none)
    simp only [Jz.l0, e, tm2 m, hf2 m (by omega), upN t (by omega), upN m (by omega), dn1 m (by omega), hr]
    clear e
    rw [if_pos (by omega)]
    by_cases c : (m : Int) % 2 = 0
    · have es : sib m = m + 1 := by unfold sib; rw [if_pos (by omega)]
      rw [es] at ha hsb
      rw [if_pos c, if_pos (by omega), if_pos (by omega), if_pos (by omega), if_pos (by omega), es, ← ha]
      rfl
    · have es : sib m = m - 1 := by unfold sib; rw [if_neg (by omega)]
      have ei : (m : Int) - 1 = ((m - 1 : Nat) : Int) := by omega
      rw [es] at ha hsb
      rw [if_neg c, if_pos (by omega), if_pos (by omega), ei, if_pos (by omega), if_pos (by omega), es, ← ha]
      rfl
theorem rpath_ev (l : List ByteArray) (h : Nat) (hh : h ≤ 4) (hl : l.length = 2 ^ h) (hs : ∀ s ∈ l, s.size ≤ 300) (i : Nat) (hi : i < 2 ^ h) : Sha.Ev (fun k => Jz.f k l (i : Int)) (Pt l i h 0) := by
  have := rpath_l l h hh hl hs i hi h 0 [] (by omega) (by simp)
  rw [Nat.pow_zero, Nat.div_one] at this
  unfold Jz.f
  exact Ev.bind (levels_ev l h hh hl hs) this
/-! one leaf turned -/
end Go.Proofs.YtdodghifojkclaaGreatDoor.Sha
