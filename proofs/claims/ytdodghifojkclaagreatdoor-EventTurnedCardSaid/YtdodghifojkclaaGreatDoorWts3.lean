/-
  Values, publics, signatures, and what they are recovered to: the program's and the document's are one.
  Conditions: none.
-/
import Derived.Test.YtdodghifojkclaaGreatDoorWts2
import Derived.Test.YtdodghifojkclaaGreatDoorPPx2
import Derived.Test.YtdodghifojkclaaGreatDoorPPx3
namespace Go.Proofs.YtdodghifojkclaaGreatDoor.Sha
open Go.RowKit Go.Proofs.YtdodghifojkclaaGreatDoor.PP Go.Proofs.YtdodghifojkclaaGreatDoorW.PrintWords Go.Proofs.YtdodghifojkclaaGreatDoorW.PrintLast Go.Proofs.YtdodghifojkclaaGreatDoorW.PrintMore
set_option linter.unusedSimpArgs false
set_option linter.unusedVariables false

def tab (g : Nat → ByteArray) (n : Nat) : List ByteArray := (List.range n).map g
theorem tab_len (g : Nat → ByteArray) (n : Nat) : (tab g n).length = n := by unfold tab; rw [List.length_map, List.length_range]
theorem tab_succ (g : Nat → ByteArray) (n : Nat) : tab g (n + 1) = tab g n ++ [g n] := by unfold tab; rw [List.range_succ, List.map_append]; rfl
theorem rdo_get (l : List ByteArray) (j : Nat) (h : j < l.length) : rdOf ByteArray.empty l (j : Int) = l[j] := by
  unfold rdOf
  simp [List.getD, h]
theorem tab_at (g : Nat → ByteArray) (n j : Nat) (h : j < n) : rdOf ByteArray.empty (tab g n) (j : Int) = g j := by
  rw [rdo_get _ _ (by rw [tab_len]; exact h)]
  unfold tab
  rw [List.getElem_map, List.getElem_range]
theorem tab_mem (g : Nat → ByteArray) (n : Nat) (P : ByteArray → Prop) (h : ∀ q, q < n → P (g q)) : ∀ s ∈ tab g n, P s := by
  intro s hs
  unfold tab at hs
  obtain ⟨q, hq, rfl⟩ := List.mem_map.1 hs
  exact h q (List.mem_range.1 hq)
theorem tab_eq (g f : Nat → ByteArray) (n : Nat) (h : ∀ q, q < n → g q = f q) : tab g n = tab f n := by
  unfold tab
  apply List.map_congr_left
  intro q hq
  exact h q (List.mem_range.1 hq)
theorem chain_nat (q n : Nat) (hq : q < 256) (hn : n ≤ 1000) (x : ByteArray) (hx : x.size ≤ 300) : Sha.Ev (fun k => J9.f k (q : Int) x (n : Int)) (Chn q n x) := by
  have := chain_ev (q : Int) (n : Int) x hx
  rw [cnt_nat n hn, show ((q : Int) % 256).toNat = q by omega] at this
  exact this
/-- A digit as a number of steps. -/
def dn (l : List Int) (q : Nat) : Nat := (rd l (q : Int)).toNat
theorem dn_eq (l : List Int) (hl : l.length = 67) (hb : ∀ x ∈ l, 0 ≤ x ∧ x ≤ 15) (q : Nat) (hq : q < 67) : rd l (q : Int) = (dn l q : Int) ∧ dn l q ≤ 15 := by
  have := hb (rd l (q : Int)) (by rw [rd_get l q (by omega)]; exact List.getElem_mem _)
  unfold dn
  omega
theorem secret_yes (s : ByteArray) (hs : s.size ≤ 300) (a : Int) (h0 : 0 ≤ a) (h1 : a ≤ 65535) (q : Nat) (hq : q < 67) : Sha.Ev (fun k => J6.f k s a (q : Int)) (sc s a q, true) := by
  have := secret_ev s hs a (q : Int)
  rw [if_pos (by omega)] at this
  exact this
def vl (s : ByteArray) (a : Int) (st : List Int) (q : Nat) : ByteArray := Chn q (dn st q) (sc s a q)
theorem vl_size (s : ByteArray) (a : Int) (st : List Int) (q : Nat) : (vl s a st q).size ≤ 300 := Chn_size _ _ _ (by rw [sc_size]; decide)
theorem values_l (s : ByteArray) (hs : s.size ≤ 300) (a : Int) (h0 : 0 ≤ a) (h1 : a ≤ 65535) (st : List Int) (hl : st.length = 67) (hb : ∀ x ∈ st, 0 ≤ x ∧ x ≤ 15) :
    ∀ (d j : Nat), j + d = 67 → Sha.Ev (fun k => Ua.l0 k s a st (tab (vl s a st) j) (j : Int)) (tab (vl s a st) 67)
  | 0, j, h => by
    obtain rfl : j = 67 := by omega
    refine Ev.succ (G := fun _ => some (tab (vl s a st) 67)) (fun k => ?_) (Ev.pure _)
    simp only [Ua.l0]
    rw [if_neg (by omega)]
  | d + 1, j, h => by
    have hj : j < 67 := by omega
    have hd := dn_eq st hl hb j hj
    have ih := values_l s hs a h0 h1 st hl hb d (j + 1) (by omega)
    rw [tab_succ] at ih
    have hlim : (tab (vl s a st) j).length < 8796093022208 := by rw [tab_len]; omega
    refine Ev.succ (G := fun k => (J6.f k s a (j : Int)).bind fun t => (J9.f k (j : Int) t.1 (dn st j : Int)).bind fun u => (if (tab (vl s a st) j).length < 8796093022208 then Ua.l0 k s a st (tab (vl s a st) j ++ [u]) ((j + 1 : Nat) : Int) else none)) (fun k => ?_) (Ev.bind (secret_yes s hs a h0 h1 j hj) (Ev.bind (chain_nat j (dn st j) (by omega) (by omega) _ (by rw [sc_size]; decide)) (ifs hlim ih)))
    simp only [Ua.l0, upI j (by omega), hd.1]
    simp only [if_pos (show (j : Int) < 67 by omega), if_pos (show (0 : Int) ≤ (j : Int) by omega), if_pos (show (j : Int) < (st.length : Int) by omega)]
theorem values_ev (s : ByteArray) (hs : s.size ≤ 300) (a : Int) (h0 : 0 ≤ a) (h1 : a ≤ 65535) (st : List Int) (hl : st.length = 67) (hb : ∀ x ∈ st, 0 ≤ x ∧ x ≤ 15) : Sha.Ev (fun k => Ua.f k s a st) (tab (vl s a st) 67) := values_l s hs a h0 h1 st hl hb 67 0 (by omega)
/-! publics -/
def en15 (s : ByteArray) (a : Int) (q : Nat) : ByteArray := Chn q 15 (sc s a q)
def pb (s : ByteArray) (a : Int) : ByteArray := tT 3 (tab (en15 s a) 67)
theorem en15_size (s : ByteArray) (a : Int) (q : Nat) : (en15 s a q).size ≤ 300 := Chn_size _ _ _ (by rw [sc_size]; decide)
theorem m15 : ∀ x ∈ List.replicate 67 (15 : Int), 0 ≤ x ∧ x ≤ 15 := by
  intro x hx
  rw [List.eq_of_mem_replicate hx]
  decide
theorem dn15 (q : Nat) (hq : q < 67) : dn (List.replicate 67 15) q = 15 := by
  unfold dn
  rw [rd_get _ q (by rw [List.length_replicate]; exact hq), List.getElem_replicate]
  rfl
theorem public_ev (s : ByteArray) (hs : s.size ≤ 300) (a : Int) : Sha.Ev (fun k => Uv.f k s a) (if 0 ≤ a ∧ a ≤ 65535 then (pb s a, true) else (⟨#[]⟩, false)) := by
  unfold Uv.f
  refine Ev.bind (leafs_ev a) ?_
  by_cases c : 0 ≤ a ∧ a ≤ 65535
  · rw [lf_yes a (by omega) (by omega), if_pos c]
    have hv := values_ev s hs a c.1 c.2 (List.replicate 67 15) (by rw [List.length_replicate]) m15
    rw [tab_eq _ (en15 s a) 67 (fun q hq => by unfold vl en15; rw [dn15 q hq])] at hv
    exact ifs rfl (Ev.bind hv (Ev.bind (tagT 3 _ (tab_mem _ _ _ (fun q _ => by have := en15_size s a q; omega)) (by rw [tab_len]; decide)) (Ev.pure _)))
  · rw [lf_no a (by omega), if_neg c]
    exact ifn (by decide) (Ev.pure _)
/-! signatures -/
def sg (s : ByteArray) (a : Int) (d : ByteArray) : List ByteArray := tab (vl s a (Dg d)) 67
theorem sg_len (s : ByteArray) (a : Int) (d : ByteArray) : (sg s a d).length = 67 := tab_len _ _
theorem sg_mem (s : ByteArray) (a : Int) (d : ByteArray) : ∀ x ∈ sg s a d, x.size ≤ 300 := tab_mem _ _ _ (fun q _ => vl_size _ _ _ _)
theorem sign_ev (s : ByteArray) (hs : s.size ≤ 300) (a : Int) (d : ByteArray) : Sha.Ev (fun k => Uy.f k s a d) (if (0 ≤ a ∧ a ≤ 65535) ∧ d.size = 32 then (sg s a d, true) else ([], false)) := by
  unfold Uy.f
  refine Ev.bind (leafs_ev a) (Ev.bind (digits_ev d) ?_)
  by_cases c : 0 ≤ a ∧ a ≤ 65535
  · rw [lf_yes a (by omega) (by omega)]
    refine ifs rfl ?_
    by_cases c2 : d.size = 32
    · rw [if_pos c2, if_pos ⟨c, c2⟩]
      exact ifs rfl (Ev.bind (values_ev s hs a c.1 c.2 (Dg d) (Dg_len d c2) (Dg_mem d c2)) (Ev.pure _))
    · rw [if_neg c2, if_neg (fun h => c2 h.2)]
      exact ifn (by decide) (Ev.pure _)
  · have e : ¬ ((0 ≤ a ∧ a ≤ 65535) ∧ d.size = 32) := fun h => c h.1
    rw [lf_no a (by omega), if_neg e]
    exact ifn (by decide) (Ev.pure _)
/-! what values lead to -/
def en (st : List Int) (l : List ByteArray) (q : Nat) : ByteArray := Chn q (15 - dn st q) (rdOf ByteArray.empty l (q : Int))
def rc (st : List Int) (l : List ByteArray) : ByteArray := tT 3 (tab (en st l) 67)
theorem en_size (st : List Int) (l : List ByteArray) (hm : ∀ s ∈ l, s.size ≤ 300) (hl : l.length = 67) (q : Nat) (hq : q < 67) : (en st l q).size ≤ 300 := by
  unfold en
  rw [rdo_get l q (by omega)]
  exact Chn_size _ _ _ (hm _ (List.getElem_mem _))
theorem left15 (st : List Int) (hl : st.length = 67) (hb : ∀ x ∈ st, 0 ≤ x ∧ x ≤ 15) (q : Nat) (hq : q < 67) : wrap64 (15 - rd st (q : Int)) = ((15 - dn st q : Nat) : Int) := by
  obtain ⟨h1, h2⟩ := dn_eq st hl hb q hq
  rw [h1, w64 (by omega) (by omega)]
  omega
theorem recover_l (st : List Int) (hs : st.length = 67) (hb : ∀ x ∈ st, 0 ≤ x ∧ x ≤ 15) (l : List ByteArray) (hm : ∀ s ∈ l, s.size ≤ 300) (hl : l.length = 67) :
    ∀ (d j : Nat), j + d = 67 → Sha.Ev (fun k => Jw.l0 k st (tab (en st l) j) l 67 (j : Int)) (rc st l, true)
  | 0, j, h => by
    obtain rfl : j = 67 := by omega
    refine Ev.succ (G := fun k => (J5.f k 3 (tab (en st l) 67)).bind fun t => some (t, true)) (fun k => ?_) (Ev.bind (tagT 3 (tab (en st l) 67) (tab_mem _ _ _ (fun q hq => by have := en_size st l hm hl q hq; omega)) (by rw [tab_len]; decide)) (Ev.pure _))
    simp only [Jw.l0]
    rw [if_neg (by omega)]
  | d + 1, j, h => by
    have hj : j < 67 := by omega
    have hd := left15 st hs hb j hj
    have ih := recover_l st hs hb l hm hl d (j + 1) (by omega)
    rw [tab_succ] at ih
    have hlim : (tab (en st l) j).length < 8796093022208 := by rw [tab_len]; omega
    have hx : (rdOf ByteArray.empty l (j : Int)).size ≤ 300 := by rw [rdo_get l j (by omega)]; exact hm _ (List.getElem_mem _)
    refine Ev.succ (G := fun k => (J9.f k (j : Int) (rdOf ByteArray.empty l (j : Int)) ((15 - dn st j : Nat) : Int)).bind fun u => (if (tab (en st l) j).length < 8796093022208 then Jw.l0 k st (tab (en st l) j ++ [u]) l 67 ((j + 1 : Nat) : Int) else none)) (fun k => ?_) (Ev.bind (chain_nat j (15 - dn st j) (by omega) (by omega) _ hx) (ifs hlim ih))
    simp only [Jw.l0, upI j (by omega), hd]
    clear hd
    rw [if_pos (by omega), if_pos (by omega), if_pos (by omega), if_pos (by omega)]
theorem recover_ev (d : ByteArray) (l : List ByteArray) (hm : l.length = 67 → ∀ s ∈ l, s.size ≤ 300) : Sha.Ev (fun k => Jw.f k d l) (if d.size = 32 ∧ l.length = 67 then (rc (Dg d) l, true) else (⟨#[]⟩, false)) := by
  have no : ∀ st, Sha.Ev (fun k => Jw.j0 k l st true) ((⟨#[]⟩ : ByteArray), false) := fun st => Ev.succ (G := fun _ => some ((⟨#[]⟩ : ByteArray), false)) (fun k => by simp only [Jw.j0]; rw [if_pos trivial]) (Ev.pure _)
  unfold Jw.f
  refine Ev.bind (digits_ev d) ?_
  by_cases c : d.size = 32
  · rw [if_pos c]
    refine ifs rfl ?_
    by_cases c2 : l.length = 67
    · rw [if_pos ⟨c, c2⟩]
      have e : ((l.length : Int) != 67) = false := by rw [c2]; rfl
      rw [e]
      have := recover_l (Dg d) (Dg_len d c) (Dg_mem d c) l (hm c2) c2 67 0 (by omega)
      refine Ev.succ (G := fun k => Jw.l0 k (Dg d) [] l 67 0) (fun k => ?_) this
      simp only [Jw.j0]
      rw [if_neg (by decide), c2]
      rfl
    · have e : ((l.length : Int) != 67) = true := by rw [bne_iff_ne]; omega
      rw [e, if_neg (fun h => c2 h.2)]
      exact no _
  · rw [if_neg c, if_neg (fun h => c h.1)]
    exact ifn (by decide) (no _)
/-- The inputs of so many steps. -/
def Rs (q : Nat) : Nat → ByteArray → List ByteArray
  | 0, _ => []
  | n + 1, x => inT 1 [one q, x] :: Rs q n (stp q x)
theorem Rs_len (q : Nat) : ∀ (n : Nat) (x : ByteArray), (Rs q n x).length = n
  | 0, _ => rfl
  | n + 1, x => by
    show (Rs q n (stp q x)).length + 1 = n + 1
    rw [Rs_len q n]
/-- The inputs of all chains from here on. -/
def Ro (st : List Int) (l : List ByteArray) : Nat → Nat → List ByteArray
  | 0, _ => []
  | d + 1, j => Rs j (15 - dn st j) (rdOf ByteArray.empty l (j : Int)) ++ Ro st l d (j + 1)
theorem Ro_len (st : List Int) (l : List ByteArray) : ∀ (d j : Nat), (Ro st l d j).length ≤ 15 * d
  | 0, _ => Nat.le_refl _
  | d + 1, j => by
    show (Rs j (15 - dn st j) (rdOf ByteArray.empty l (j : Int)) ++ Ro st l d (j + 1)).length ≤ 15 * (d + 1)
    have := Ro_len st l d (j + 1)
    rw [List.length_append, Rs_len]
    omega
theorem rrec_l1 (st : List Int) (l : List ByteArray) (v : ByteArray × List ByteArray) (es : List ByteArray) (he : es.length ≤ 100) (q : Nat) (hq : q < 67) : ∀ (n i : Nat) (o : List ByteArray) (x : ByteArray), i + n = 15 → x.size ≤ 300 → o.length + n ≤ 10000 → Sha.Ev (fun k => Jm.l0 k l st (es ++ [Chn q n x]) (o ++ Rs q n x) ((q + 1 : Nat) : Int)) v → Sha.Ev (fun k => Jm.l1 k l st es o (q : Int) x (one q) (i : Int)) v
  | 0, i, o, x, h, hx, ho, hv => by
    have hlim : es.length < 8796093022208 := by omega
    have hv2 : Sha.Ev (fun k => Jm.l0 k l st (es ++ [x]) o ((q + 1 : Nat) : Int)) v := by
      have e : o ++ Rs q 0 x = o := List.append_nil o
      rw [e] at hv
      exact hv
    refine Ev.succ (fun k => ?_) (ifs hlim hv2) (G := fun k => if es.length < 8796093022208 then Jm.l0 k l st (es ++ [x]) o ((q + 1 : Nat) : Int) else none)
    simp only [Jm.l1, upI q (by omega)]
    rw [if_neg (by omega)]
  | n + 1, i, o, x, h, hx, ho, hv => by
    have hlim : o.length < 8796093022208 := by omega
    have ih := rrec_l1 st l v es he q hq n (i + 1) (o ++ [inT 1 [one q, x]]) (stp q x) (by omega) (by rw [stp_size]; decide) (by rw [List.length_append]; simp; omega) (by
      rw [List.append_assoc]
      exact hv)
    have hi := rinput_small 1 (by omega) [one q, x] (two_mem q x hx) (by simp)
    have hst := rstp_ev (q : Int) (by omega) (by omega) x hx
    rw [show ((q : Int) % 256).toNat = q by omega] at hst
    refine Ev.succ (G := fun k => (Jh.f k 1 [one q, x]).bind fun t => (if o.length < 8796093022208 then ((Uh.f k (q : Int) x).bind fun u => Jm.l1 k l st es (o ++ [t]) (q : Int) u (one q) ((i + 1 : Nat) : Int)) else none)) (fun k => ?_) (Ev.bind hi (ifs hlim (Ev.bind hst ih)))
    simp only [Jm.l1, upI i (by omega)]
    rw [if_pos (by omega)]
theorem rrec_l0 (st : List Int) (hs : st.length = 67) (hb : ∀ x ∈ st, 0 ≤ x ∧ x ≤ 15) (l : List ByteArray) (hm : ∀ s ∈ l, s.size ≤ 300) (hl : l.length = 67) :
    ∀ (d j : Nat) (o : List ByteArray), j + d = 67 → o.length ≤ 15 * j → Sha.Ev (fun k => Jm.l0 k l st (tab (en st l) j) o (j : Int)) (rc st l, o ++ (Ro st l d j ++ [inT 3 (tab (en st l) 67)]))
  | 0, j, o, h, ho => by
    obtain rfl : j = 67 := by omega
    have hlim : o.length < 8796093022208 := by omega
    have hem : ∀ s ∈ tab (en st l) 67, s.size ≤ 2000 := tab_mem _ _ _ (fun q hq => by have := en_size st l hm hl q hq; omega)
    refine Ev.succ (fun k => ?_) (Ev.bind (rtagT 3 (by omega) (tab (en st l) 67) hem (by rw [tab_len]; decide)) (Ev.bind (rinput_small 3 (by omega) (tab (en st l) 67) hem (by rw [tab_len]; decide)) (ifs hlim (Ev.pure _)))) (G := fun k => (Jq.f k 3 (tab (en st l) 67)).bind fun t => (Jh.f k 3 (tab (en st l) 67)).bind fun u => (if o.length < 8796093022208 then some (t, o ++ [u]) else none))
    simp only [Jm.l0]
    rw [if_neg (by omega)]
  | d + 1, j, o, h, ho => by
    have hj : j < 67 := by omega
    obtain ⟨h1, h2⟩ := dn_eq st hs hb j hj
    have hx : (rdOf ByteArray.empty l (j : Int)).size ≤ 300 := by rw [rdo_get l j (by omega)]; exact hm _ (List.getElem_mem _)
    have ih := rrec_l0 st hs hb l hm hl d (j + 1) (o ++ Rs j (15 - dn st j) (rdOf ByteArray.empty l (j : Int))) (by omega) (by rw [List.length_append, Rs_len]; omega)
    rw [tab_succ, List.append_assoc, ← List.append_assoc (Rs _ _ _)] at ih
    have := rrec_l1 st l _ (tab (en st l) j) (by rw [tab_len]; omega) j hj (15 - dn st j) (dn st j) o (rdOf ByteArray.empty l (j : Int)) (by omega) hx (by omega) ih
    refine Ev.succ (G := fun k => (Jc.f k (j : Int) 1).bind fun t => Jm.l1 k l st (tab (en st l) j) o (j : Int) (rdOf ByteArray.empty l (j : Int)) t.1 (dn st j : Int)) (fun k => ?_) (Ev.bind (rone_ev j (by omega)) this)
    simp only [Jm.l0, h1]
    simp only [if_pos (show (j : Int) < 67 by omega), if_pos (show (0 : Int) ≤ (j : Int) by omega), if_pos (show (j : Int) < (l.length : Int) by omega), if_pos (show (j : Int) < (st.length : Int) by omega)]
theorem rrecover_ev (d : ByteArray) (hd : d.size = 32) (l : List ByteArray) (hm : ∀ s ∈ l, s.size ≤ 300) (hl : l.length = 67) : Sha.Ev (fun k => Jm.f k d l) (rc (Dg d) l, Ro (Dg d) l 67 0 ++ [inT 3 (tab (en (Dg d) l) 67)]) := by
  have := rrec_l0 (Dg d) (Dg_len d hd) (Dg_mem d hd) l hm hl 67 0 [] (by omega) (by simp)
  rw [List.nil_append] at this
  unfold Jm.f
  exact Ev.bind (rdigits_ev d hd) this
end Go.Proofs.YtdodghifojkclaaGreatDoor.Sha
