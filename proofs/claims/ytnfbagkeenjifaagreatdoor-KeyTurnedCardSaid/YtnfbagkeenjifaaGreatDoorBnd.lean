/-
  Two right signatures: their ways part and meet; two texts of one digest are found; a turned signature's parts.
  Conditions: none.
-/
import Derived.Test.YtnfbagkeenjifaaGreatDoorChk
import Derived.Test.YtnfbagkeenjifaaGreatDoorMrk3
import Derived.Test.YtnfbagkeenjifaaGreatDoorPPx3
namespace Go.Proofs.YtnfbagkeenjifaaGreatDoor.Sha
open Go.RowKit Go.Proofs.YtnfbagkeenjifaaGreatDoor.PP Go.Proofs.YtnfbagkeenjifaaGreatDoorW.PrintWords Go.Proofs.YtnfbagkeenjifaaGreatDoorW.PrintLast Go.Proofs.YtnfbagkeenjifaaGreatDoorW.PrintMore
set_option linter.unusedSimpArgs false
set_option linter.unusedVariables false

/-! two texts of one digest are found -/
def sm (l : List ByteArray) (q : Nat) : ByteArray := dg (rdOf ByteArray.empty l (q : Int))
theorem cl_two (l : List ByteArray) (hl : l.length ≤ 5000) (p q : Nat) (hp : p < l.length) (hq : q < p) (hn : l[p] ≠ l[q]'(by omega)) (hd : dg l[p] = dg (l[q]'(by omega))) (i : Nat) (hi : i ≤ p) (hend : i ≠ p → Sha.Ev (fun k => palaverref05_Clash.l1 k l (tab (sm l) l.length) ((i + 1 : Nat) : Int)) true) :
    ∀ (d j : Nat), j + d = i → (i = p → j ≤ q) → Sha.Ev (fun k => palaverref05_Clash.l2 k l (tab (sm l) l.length) (i : Int) (j : Int)) true
  | 0, j, h, hj => by
    have hip : i ≠ p := fun e => by have := hj e; omega
    refine Ev.succ (fun k => ?_) (hend hip)
    simp only [palaverref05_Clash.l2, upI i (by omega)]
    rw [if_neg (by omega)]
  | d + 1, j, h, hj => by
    have hil : i < l.length := by omega
    have hjl : j < l.length := by omega
    have hlen := tab_len (sm l) l.length
    have t1 := tab_at (sm l) l.length i hil
    have t2 := tab_at (sm l) l.length j hjl
    have r1 := rdo_get l i hil
    have r2 := rdo_get l j hjl
    have i0 : (j : Int) < (i : Int) := by omega
    have i1 : (0 : Int) ≤ (i : Int) := by omega
    have i2 : (i : Int) < ((tab (sm l) l.length).length : Int) := by omega
    have i3 : (0 : Int) ≤ (j : Int) := by omega
    have i4 : (j : Int) < ((tab (sm l) l.length).length : Int) := by omega
    have i5 : (i : Int) < (l.length : Int) := by omega
    have i6 : (j : Int) < (l.length : Int) := by omega
    by_cases c : dg l[i] = dg l[j]
    · by_cases c2 : l[i] = l[j]
      · have ih := cl_two l hl p q hp hq hn hd i hi hend d (j + 1) (by omega) (fun e => by
          have := hj e
          by_cases e2 : j = q
          · exfalso
            subst e2 e
            exact hn c2
          · omega)
        refine Ev.succ (fun k => ?_) ih
        simp only [palaverref05_Clash.l2, upI j (by omega), t1, t2, if_pos i0, if_pos i1, if_pos i2, if_pos i3, if_pos i4, if_pos i5, if_pos i6]
        unfold sm
        rw [r1, r2, if_pos (congrArg ByteArray.toList c), if_pos (congrArg ByteArray.toList c2)]
      · refine Ev.succ (G := fun _ => some true) (fun k => ?_) (Ev.pure _)
        simp only [palaverref05_Clash.l2, upI j (by omega), t1, t2, if_pos i0, if_pos i1, if_pos i2, if_pos i3, if_pos i4, if_pos i5, if_pos i6]
        unfold sm
        rw [r1, r2, if_pos (congrArg ByteArray.toList c), if_neg (fun e => c2 ((Oct.toList_eq _ _).1 e))]
    · have ih := cl_two l hl p q hp hq hn hd i hi hend d (j + 1) (by omega) (fun e => by
        have := hj e
        by_cases e2 : j = q
        · exfalso
          subst e2 e
          exact c hd
        · omega)
      refine Ev.succ (fun k => ?_) ih
      simp only [palaverref05_Clash.l2, upI j (by omega), t1, t2, if_pos i0, if_pos i1, if_pos i2, if_pos i3, if_pos i4]
      unfold sm
      rw [r1, r2, if_neg (fun e => c ((Oct.toList_eq _ _).1 e))]
theorem cl_one (l : List ByteArray) (hl : l.length ≤ 5000) (p q : Nat) (hp : p < l.length) (hq : q < p) (hn : l[p] ≠ l[q]'(by omega)) (hd : dg l[p] = dg (l[q]'(by omega))) : ∀ (d i : Nat), i + d = p → Sha.Ev (fun k => palaverref05_Clash.l1 k l (tab (sm l) l.length) (i : Int)) true
  | 0, i, h => by
    have := cl_two l hl p q hp hq hn hd i (by omega) (fun e => by omega) i 0 (by omega) (fun _ => by omega)
    refine Ev.succ (fun k => ?_) this
    simp only [palaverref05_Clash.l1]
    rw [if_pos (by omega)]
    rfl
  | d + 1, i, h => by
    have ih := cl_one l hl p q hp hq hn hd d (i + 1) (by omega)
    have := cl_two l hl p q hp hq hn hd i (by omega) (fun _ => ih) i 0 (by omega) (fun e => by omega)
    refine Ev.succ (fun k => ?_) this
    simp only [palaverref05_Clash.l1]
    rw [if_pos (by omega)]
    rfl
theorem cl_zero (l : List ByteArray) (hl : l.length ≤ 5000) (hm : ∀ s ∈ l, s.size ≤ 140737488355000) (hv : Sha.Ev (fun k => palaverref05_Clash.l1 k l (tab (sm l) l.length) 0) true) : ∀ (d j : Nat), j + d = l.length → Sha.Ev (fun k => palaverref05_Clash.l0 k l (tab (sm l) j ++ List.replicate d (⟨#[]⟩ : ByteArray)) (j : Int)) true
  | 0, j, h => by
    obtain rfl : j = l.length := by omega
    refine Ev.succ (fun k => ?_) hv
    simp only [palaverref05_Clash.l0, List.replicate_zero, List.append_nil]
    rw [if_neg (by omega)]
  | d + 1, j, h => by
    have hj : j < l.length := by omega
    have ih := cl_zero l hl hm hv d (j + 1) (by omega)
    have r1 := ref_ev (rdOf ByteArray.empty l (j : Int)) (by rw [rdo_get l j hj]; exact hm _ (List.getElem_mem hj))
    have hlen := tab_len (sm l) j
    have e : (tab (sm l) j ++ List.replicate (d + 1) (⟨#[]⟩ : ByteArray)).set j (sm l j) = tab (sm l) (j + 1) ++ List.replicate d (⟨#[]⟩ : ByteArray) := by
      rw [List.set_append_right _ _ (by omega), hlen, Nat.sub_self, List.replicate_succ, List.set_cons_zero, tab_succ, List.append_assoc]
      rfl
    rw [← e] at ih
    have hlim : (j : Int) < ((tab (sm l) j ++ List.replicate (d + 1) (⟨#[]⟩ : ByteArray)).length : Int) := by
      rw [List.length_append, List.length_replicate]
      omega
    refine Ev.succ (G := fun k => (palaverref02_Sum.f k (rdOf ByteArray.empty l (j : Int))).bind fun t => (if (j : Int) < ((tab (sm l) j ++ List.replicate (d + 1) (⟨#[]⟩ : ByteArray)).length : Int) then (palaverref05_Clash.l0 k l ((tab (sm l) j ++ List.replicate (d + 1) (⟨#[]⟩ : ByteArray)).set j t) ((j + 1 : Nat) : Int)) else none)) (fun k => ?_) (Ev.bind r1 (ifs hlim ih))
    simp only [palaverref05_Clash.l0, upI j (by omega), Int.toNat_natCast]
    rw [if_pos (by omega), if_pos (by omega)]
theorem clash3 (l : List ByteArray) (hl : l.length ≤ 5000) (hm : ∀ s ∈ l, s.size ≤ 140737488355000) (u v : ByteArray) (hu : u ∈ l) (hv : v ∈ l) (hn : u ≠ v) (hd : dg u = dg v) : Sha.Ev (fun k => palaverref05_Clash.f k l) true := by
  have key : Sha.Ev (fun k => palaverref05_Clash.l1 k l (tab (sm l) l.length) 0) true := by
    obtain ⟨i, hi, rfl⟩ := List.getElem_of_mem hu
    obtain ⟨j, hj, rfl⟩ := List.getElem_of_mem hv
    rcases Nat.lt_trichotomy i j with h | h | h
    · exact cl_one l hl j i hj h (fun e => hn e.symm) hd.symm j 0 (by omega)
    · subst h
      exact absurd rfl hn
    · exact cl_one l hl i j hi h hn hd i 0 (by omega)
  have := cl_zero l hl hm key l.length 0 (by omega)
  unfold palaverref05_Clash.f
  refine ifs (by omega) ?_
  rw [Int.toNat_natCast]
  refine ifs (by omega) ?_
  exact this
/-! ways that part and meet -/
theorem inT_inj (t : Int) (l m : List ByteArray) (hl : ∀ s ∈ l, s.size ≤ 2000) (hm : ∀ s ∈ m, s.size ≤ 2000) (h : inT t l = inT t m) : l = m := by
  unfold inT at h
  have h2 := congrArg ByteArray.toList h
  rw [toList_mk, toList_mk] at h2
  exact cat_inj l m hl hm (List.append_inj h2 rfl).2
theorem chn_meet (q : Nat) : ∀ (n : Nat) (x y : ByteArray), x.size ≤ 300 → y.size ≤ 300 → x ≠ y → Chn q n x = Chn q n y → ∃ u ∈ Rs q n x, ∃ v ∈ Rs q n y, u ≠ v ∧ dg u = dg v
  | 0, x, y, _, _, hn, h => absurd h hn
  | n + 1, x, y, hx, hy, hn, h => by
    by_cases c : stp q x = stp q y
    · refine ⟨inT 1 [one q, x], List.mem_cons_self .., inT 1 [one q, y], List.mem_cons_self .., fun e => ?_, c⟩
      have := inT_inj 1 _ _ (two_mem q x hx) (two_mem q y hy) e
      simp only [List.cons.injEq, and_true, true_and] at this
      exact hn this
    · obtain ⟨u, hu, v, hv, h1, h2⟩ := chn_meet q n (stp q x) (stp q y) (by rw [stp_size]; decide) (by rw [stp_size]; decide) c h
      exact ⟨u, List.mem_cons_of_mem _ hu, v, List.mem_cons_of_mem _ hv, h1, h2⟩
theorem Rs_size (q : Nat) : ∀ (n : Nat) (x : ByteArray), x.size ≤ 300 → ∀ s ∈ Rs q n x, s.size ≤ 140737488355000
  | 0, _, _ => by intro s hs; cases hs
  | n + 1, x, hx => by
    intro s hs
    rcases List.mem_cons.1 hs with rfl | hs
    · exact small_size 1 _ (two_mem q x hx) (by simp)
    · exact Rs_size q n (stp q x) (by rw [stp_size]; decide) s hs
theorem Ro_size (st : List Int) (l : List ByteArray) (hl : l.length = 67) (hm : ∀ s ∈ l, s.size ≤ 300) : ∀ (d j : Nat), j + d = 67 → ∀ s ∈ Ro st l d j, s.size ≤ 140737488355000
  | 0, _, _ => by intro s hs; cases hs
  | d + 1, j, h => by
    intro s hs
    rcases List.mem_append.1 hs with hs | hs
    · exact Rs_size j _ _ (by rw [rdo_get l j (by omega)]; exact hm _ (List.getElem_mem _)) s hs
    · exact Ro_size st l hl hm d (j + 1) (by omega) s hs
theorem Ro_mem (st : List Int) (l : List ByteArray) (q : Nat) (u : ByteArray) : ∀ (d j : Nat), j ≤ q → q < j + d → u ∈ Rs q (15 - dn st q) (rdOf ByteArray.empty l (q : Int)) → u ∈ Ro st l d j
  | 0, j, h1, h2, _ => by omega
  | d + 1, j, h1, h2, hu => by
    by_cases e : j = q
    · subst e
      exact List.mem_append.2 (.inl hu)
    · exact List.mem_append.2 (.inr (Ro_mem st l q u d (j + 1) (by omega) (by omega) hu))
theorem road_ok (d : ByteArray) (l : List ByteArray) (hl : l.length = 67) (hm : ∀ s ∈ l, s.size ≤ 300) : (∀ s ∈ Ro (Dg d) l 67 0 ++ [inT 3 (tab (en (Dg d) l) 67)], s.size ≤ 140737488355000) ∧ (Ro (Dg d) l 67 0 ++ [inT 3 (tab (en (Dg d) l) 67)]).length ≤ 1006 := by
  constructor
  · intro s hs
    rcases List.mem_append.1 hs with hs | hs
    · exact Ro_size _ l hl hm 67 0 (by omega) s hs
    · rw [List.mem_singleton.1 hs]
      exact small_size 3 _ (tab_mem _ _ _ (fun p hp => by have := en_size (Dg d) l hm hl p hp; omega)) (by rw [tab_len]; decide)
  · have := Ro_len (Dg d) l 67 0
    rw [List.length_append]
    simp
    omega
open Go.Proofs.YtnfbagkeenjifaaGreatDoor.Oct.Evt (parts5 parts5_ok one_mem pair_mem two_nonneg named_ev rnamed_ev Fo_size)

/-- Two lists hold two unlike texts of one digest, one each. -/
def Meet (r q : List ByteArray) : Prop := ∃ u ∈ r, ∃ v ∈ q, u ≠ v ∧ dg u = dg v
theorem Meet.left {r q : List ByteArray} (x y : List ByteArray) (h : Meet r q) : Meet (r ++ x) (q ++ y) := by
  obtain ⟨u, hu, v, hv, h⟩ := h
  exact ⟨u, List.mem_append.2 (.inl hu), v, List.mem_append.2 (.inl hv), h⟩
theorem Meet.right {r q : List ByteArray} (x y : List ByteArray) (h : Meet r q) : Meet (x ++ r) (y ++ q) := by
  obtain ⟨u, hu, v, hv, h⟩ := h
  exact ⟨u, List.mem_append.2 (.inr hu), v, List.mem_append.2 (.inr hv), h⟩
theorem Meet.clash {r q : List ByteArray} (h : Meet r q) (hr : ∀ s ∈ r, s.size ≤ 140737488355000) (hq : ∀ s ∈ q, s.size ≤ 140737488355000) (lr : r.length ≤ 2000) (lq : q.length ≤ 2000) :
    Sha.Ev (fun k => palaverref05_Clash.f k (r ++ q)) true := by
  obtain ⟨u, hu, v, hv, hn, hd⟩ := h
  refine clash3 (r ++ q) (by rw [List.length_append]; omega) (fun s hs => ?_) u v (List.mem_append.2 (.inl hu)) (List.mem_append.2 (.inr hv)) hn hd
  rcases List.mem_append.1 hs with hs | hs
  · exact hr s hs
  · exact hq s hs
/-! chains -/
theorem tab_meet (st st2 : List Int) (l m : List ByteArray) (ml : ∀ s ∈ l, s.size ≤ 300) (hl : l.length = 67) (mm : ∀ s ∈ m, s.size ≤ 300) (hm : m.length = 67) (h : rc st l = rc st2 m) (x y : List ByteArray) :
    tab (en st l) 67 = tab (en st2 m) 67 ∨ Meet (x ++ [inT 3 (tab (en st l) 67)]) (y ++ [inT 3 (tab (en st2 m) 67)]) := by
  by_cases c : tab (en st l) 67 = tab (en st2 m) 67
  · exact .inl c
  · refine .inr (Meet.right _ _ ⟨_, List.mem_singleton.2 rfl, _, List.mem_singleton.2 rfl, fun e => c ?_, h⟩)
    exact inT_inj 3 _ _ (tab_mem _ _ _ (fun p hp => by have := en_size st l ml hl p hp; omega)) (tab_mem _ _ _ (fun p hp => by have := en_size st2 m mm hm p hp; omega)) e
theorem tab_en {st st2 : List Int} {l m : List ByteArray} (h : tab (en st l) 67 = tab (en st2 m) 67) (q : Nat) (hq : q < 67) : en st l q = en st2 m q := by
  rw [← tab_at (en st l) 67 q hq, ← tab_at (en st2 m) 67 q hq, h]
theorem rc_meet (st : List Int) (l m : List ByteArray) (ml : ∀ s ∈ l, s.size ≤ 300) (hl : l.length = 67) (mm : ∀ s ∈ m, s.size ≤ 300) (hm : m.length = 67) (h : rc st l = rc st m) :
    l = m ∨ Meet (Ro st l 67 0 ++ [inT 3 (tab (en st l) 67)]) (Ro st m 67 0 ++ [inT 3 (tab (en st m) 67)]) := by
  rcases tab_meet st st l m ml hl mm hm h (Ro st l 67 0) (Ro st m 67 0) with c | c
  · by_cases hn : l = m
    · exact .inl hn
    · right
      obtain ⟨q, hq, hne⟩ : ∃ q, ∃ hq : q < 67, l[q]'(by omega) ≠ m[q]'(by omega) := by
        refine Classical.byContradiction fun z => hn (List.ext_getElem (by omega) fun q h1 h2 => ?_)
        exact Classical.byContradiction fun e => z ⟨q, by omega, e⟩
      have e1 := tab_en c q hq
      unfold en at e1
      rw [rdo_get l q (by omega), rdo_get m q (by omega)] at e1
      obtain ⟨u, hu, v, hv, h1, h2⟩ := chn_meet q _ _ _ (ml _ (List.getElem_mem _)) (mm _ (List.getElem_mem _)) hne e1
      refine Meet.left _ _ ⟨u, Ro_mem _ l q u 67 0 (by omega) (by omega) ?_, v, Ro_mem _ m q v 67 0 (by omega) (by omega) ?_, h1, h2⟩
      · rw [rdo_get l q (by omega)]
        exact hu
      · rw [rdo_get m q (by omega)]
        exact hv
  · exact .inr c
/-! paths -/
theorem pr_inj2 (i : Int) (x y p q : ByteArray) (h : pr i x p = pr i y q) : x = y ∧ p = q := by
  unfold pr at h
  split at h
  · simp at h; exact ⟨h.2, h.1⟩
  · simpa using h
theorem fold_meet : ∀ (ps qs : List ByteArray) (i : Int) (x y : ByteArray), ps.length = qs.length → (∀ s ∈ ps, s.size ≤ 300) → (∀ s ∈ qs, s.size ≤ 300) → x.size ≤ 300 → y.size ≤ 300 → Fo ps i x = Fo qs i y →
    (x = y ∧ ps = qs) ∨ Meet (Rd ps i x) (Rd qs i y)
  | [], [], i, x, y, _, _, _, _, _, h => .inl ⟨h, rfl⟩
  | [], q :: qs, _, _, _, hl, _, _, _, _, _ => by simp at hl
  | p :: ps, [], _, _, _, hl, _, _, _, _, _ => by simp at hl
  | p :: ps, q :: qs, i, x, y, hl, hp, hq, hx, hy, h => by
    have hpp := hp p (by simp)
    have hqq := hq q (by simp)
    rcases fold_meet ps qs (i / 2) (tg (pr i x p)) (tg (pr i y q)) (by simpa using hl) (fun s hs => hp s (List.mem_cons_of_mem _ hs)) (fun s hs => hq s (List.mem_cons_of_mem _ hs)) (tg_size _) (tg_size _) h with ⟨c1, c2⟩ | ⟨u, hu, v, hv, c⟩
    · by_cases e : inp (pr i x p) = inp (pr i y q)
      · obtain ⟨h1, h2⟩ := pr_inj2 i x y p q (inp_inj _ _ (pr_mem i x p (by omega) (by omega)) (pr_mem i y q (by omega) (by omega)) e)
        exact .inl ⟨h1, by rw [h2, c2]⟩
      · exact .inr ⟨_, List.mem_cons_self .., _, List.mem_cons_self .., e, c1⟩
    · exact .inr ⟨u, List.mem_cons_of_mem _ hu, v, List.mem_cons_of_mem _ hv, c⟩
/-! the way of a signature -/
def lfx (c : ByteArray) (vs : List ByteArray) : ByteArray := rc (Dg (tT 6 [c])) vs
def top (c : ByteArray) (leaf : Int) (vs ps : List ByteArray) : ByteArray := Fo ps leaf (lfx c vs)
def pbx (c : ByteArray) (leaf : Int) (vs ps : List ByteArray) : ByteArray := tT 5 [one ps.length, top c leaf vs ps]
def way (c : ByteArray) (leaf : Int) (vs ps : List ByteArray) : List ByteArray :=
  ((Ro (Dg (tT 6 [c])) vs 67 0 ++ [inT 3 (tab (en (Dg (tT 6 [c])) vs) 67)]) ++ Rd ps leaf (lfx c vs)) ++ [inT 5 [one ps.length, top c leaf vs ps], inT 6 [c]]
theorem lfx_size (c : ByteArray) (vs : List ByteArray) : (lfx c vs).size = 32 := tT_size _ _
theorem top_size (c : ByteArray) (leaf : Int) (vs ps : List ByteArray) : (top c leaf vs ps).size ≤ 300 := Fo_size ps leaf _ (by rw [lfx_size]; decide)
theorem way_ok (c : ByteArray) (hc : c.size ≤ 2000) (leaf : Int) (vs ps : List ByteArray) (hv : vs.length = 67) (mv : ∀ s ∈ vs, s.size ≤ 300) (hp : ps.length ≤ 4) (mp : ∀ s ∈ ps, s.size ≤ 300) :
    (∀ s ∈ way c leaf vs ps, s.size ≤ 140737488355000) ∧ (way c leaf vs ps).length ≤ 1012 := by
  have h1 := road_ok (tT 6 [c]) vs hv mv
  have h2 := Rd_len ps leaf (lfx c vs)
  have ht := top_size c leaf vs ps
  unfold way
  constructor
  · intro s hs
    rcases List.mem_append.1 hs with hs | hs
    · rcases List.mem_append.1 hs with hs | hs
      · exact h1.1 s hs
      · exact Rd_size ps leaf _ mp (by rw [lfx_size]; decide) s hs
    · rcases List.mem_cons.1 hs with rfl | hs
      · exact small_size 5 _ (pair_mem _ _ (by rw [one_size]; decide) (by omega)) (by simp)
      · rw [List.mem_singleton.1 hs]
        exact small_size 6 _ (one_mem c hc) (by simp)
  · rw [List.length_append, List.length_append, h2]
    have := h1.2
    simp only [List.length_cons, List.length_nil]
    omega
theorem verify_way (a c s : ByteArray) (hc : c.size ≤ 2000) (hs : s.size ≤ 100000) (leaf : Int) (vs ps : List ByteArray) (e : parts5 s = (leaf, vs, ps, true)) :
    Sha.Ev (fun k => key_Verify.f k a c s) ((pbx c leaf vs ps).toList == a.toList) ∧ Sha.Ev (fun k => palaverref05_Verify.f k a c s) ((pbx c leaf vs ps).toList == a.toList, way c leaf vs ps) := by
  have h1 := Oct.Evt.kp_ev s hs
  have h2 := Oct.Evt.rp_ev s hs
  rw [e] at h1 h2
  obtain ⟨n, hn, hv, hp, mv, mp, hl, hl2, h2s⟩ := parts5_ok e
  have hl0 : 0 ≤ leaf := by rw [hl2]; exact two_nonneg s
  have hd : (tT 6 [c]).size = 32 := tT_size _ _
  have hr : (lfx c vs).size = 32 := lfx_size _ _
  have fc : ps.length ≤ 4 ∧ 0 ≤ leaf ∧ leaf < 2 ^ ps.length := ⟨by omega, hl0, by rw [hp]; exact hl⟩
  have tgx := tagT 6 [c] (one_mem c hc) (by simp)
  have rtg := rtagT 6 (by decide) [c] (one_mem c hc) (by simp)
  have rv := recover_ev (tT 6 [c]) vs (fun _ => mv)
  rw [if_pos ⟨hd, hv⟩] at rv
  have rrv := rrecover_ev (tT 6 [c]) hd vs mv hv
  have fo := fold_ev (lfx c vs) (by omega) leaf ps (fun _ => mp)
  have rfo := rfold_ev (lfx c vs) (by omega) leaf ps (fun _ => mp)
  unfold fold at fo
  rw [if_pos fc] at fo
  unfold rfold at rfo
  rw [if_pos fc] at rfo
  have hf := top_size c leaf vs ps
  have rl := (road_ok (tT 6 [c]) vs hv mv).2
  have dl : (Rd ps leaf (lfx c vs)).length = ps.length := Rd_len ps leaf _
  unfold pbx way
  change (Fo ps leaf (lfx c vs)).size ≤ 300 at hf
  change Sha.Ev _ (lfx c vs, true) at rv
  change Sha.Ev _ (lfx c vs, _) at rrv
  unfold top
  generalize lfx c vs = x at *
  generalize (Ro (Dg (tT 6 [c])) vs 67 0 ++ [inT 3 (tab (en (Dg (tT 6 [c])) vs) 67)]) = road at *
  generalize Fo ps leaf x = y at *
  generalize Rd ps leaf x = more at *
  have na := named_ev ps.length (by omega) y hf
  have rna := rnamed_ev ps.length (by omega) y hf
  have rno := rone_ev ps.length (by omega)
  have i5 : Sha.Ev _ (inT 5 [one ps.length, y]) := rinput_small 5 (by decide) [one ps.length, y] (pair_mem _ _ (by rw [one_size]; decide) (by omega)) (by simp)
  have i6 : Sha.Ev _ (inT 6 [c]) := rinput_small 6 (by decide) [c] (one_mem c hc) (by simp)
  generalize inT 5 [one ps.length, y] = u5 at *
  generalize inT 6 [c] = u6 at *
  constructor
  · unfold key_Verify.f
    exact Sha.Ev.bind h1 (ifs rfl (Sha.Ev.bind tgx (Sha.Ev.bind rv (Sha.Ev.bind fo (Sha.Ev.bind na (Sha.Ev.pure _))))))
  · unfold palaverref05_Verify.f
    refine Sha.Ev.bind h2 (ifs rfl (Sha.Ev.bind rtg (Sha.Ev.bind rrv (Sha.Ev.bind rfo (Sha.Ev.bind rno ?_)))))
    refine ifs (by show road.length + more.length < 8796093022208; omega) ?_
    refine Sha.Ev.bind (v := road ++ more) (Sha.Ev.pure _) (Sha.Ev.bind i5 (Sha.Ev.bind i6 (Sha.Ev.bind (v := [u5, u6]) (Sha.Ev.pure _) (ifs (by show (road ++ more).length + 2 < 8796093022208; rw [List.length_append]; omega) (Sha.Ev.bind rna (Sha.Ev.pure _))))))
theorem verify_none (a c s : ByteArray) (hs : s.size ≤ 100000) (leaf : Int) (vs ps : List ByteArray) (e : parts5 s = (leaf, vs, ps, false)) :
    Sha.Ev (fun k => key_Verify.f k a c s) false := by
  have h1 := Oct.Evt.kp_ev s hs
  rw [e] at h1
  unfold key_Verify.f
  exact Sha.Ev.bind h1 (ifn Bool.false_ne_true (Sha.Ev.pure _))
/-! two right signatures -/
theorem top_meet (c d : ByteArray) (leaf : Int) (vs us ps qs : List ByteArray) (hl : ps.length = qs.length) (h : pbx c leaf vs ps = pbx d leaf us qs) :
    top c leaf vs ps = top d leaf us qs ∨ Meet (way c leaf vs ps) (way d leaf us qs) := by
  have h1 := top_size c leaf vs ps
  have h2 := top_size d leaf us qs
  by_cases e : inT 5 [one ps.length, top c leaf vs ps] = inT 5 [one qs.length, top d leaf us qs]
  · left
    have := inT_inj 5 _ _ (pair_mem _ _ (by rw [one_size]; decide) (by omega)) (pair_mem _ _ (by rw [one_size]; decide) (by omega)) e
    simpa [hl] using this
  · right
    unfold way
    exact Meet.right _ _ ⟨_, List.mem_cons_self .., _, List.mem_cons_self .., e, h⟩
/-- One message, two signatures of one leaf and one length. -/
theorem turned_meet (c : ByteArray) (leaf : Int) (vs us ps qs : List ByteArray) (hv : vs.length = 67) (mv : ∀ s ∈ vs, s.size ≤ 300) (hu : us.length = 67) (mu : ∀ s ∈ us, s.size ≤ 300) (mp : ∀ s ∈ ps, s.size ≤ 300) (mq : ∀ s ∈ qs, s.size ≤ 300)
    (hl : ps.length = qs.length) (h : pbx c leaf vs ps = pbx c leaf us qs) : (vs = us ∧ ps = qs) ∨ Meet (way c leaf vs ps) (way c leaf us qs) := by
  rcases top_meet c c leaf vs us ps qs hl h with e | e
  · rcases fold_meet ps qs leaf (lfx c vs) (lfx c us) hl mp mq (by rw [lfx_size]; decide) (by rw [lfx_size]; decide) e with ⟨e1, e2⟩ | e1
    · rcases rc_meet (Dg (tT 6 [c])) vs us mv hv mu hu e1 with e3 | e3
      · exact .inl ⟨e3, e2⟩
      · exact .inr (Meet.left _ _ (Meet.left _ _ e3))
    · exact .inr (Meet.left _ _ (Meet.right _ _ e1))
  · exact .inr e
/-- Two messages, one signature. -/
theorem other_meet (c d : ByteArray) (hn : c ≠ d) (hc : c.size ≤ 2000) (hd : d.size ≤ 2000) (leaf : Int) (vs ps : List ByteArray) (hv : vs.length = 67) (mv : ∀ s ∈ vs, s.size ≤ 300) (mp : ∀ s ∈ ps, s.size ≤ 300)
    (h : pbx c leaf vs ps = pbx d leaf vs ps) : (tT 6 [c] ≠ tT 6 [d] ∧ ∀ q, q < 67 → en (Dg (tT 6 [c])) vs q = en (Dg (tT 6 [d])) vs q) ∨ Meet (way c leaf vs ps) (way d leaf vs ps) := by
  by_cases e : tT 6 [c] = tT 6 [d]
  · right
    unfold way
    refine Meet.right _ _ ⟨inT 6 [c], by simp, inT 6 [d], by simp, fun z => hn ?_, e⟩
    have := inT_inj 6 _ _ (one_mem c hc) (one_mem d hd) z
    simpa using this
  · rcases top_meet c d leaf vs vs ps ps rfl h with e1 | e1
    · rcases fold_meet ps ps leaf (lfx c vs) (lfx d vs) rfl mp mp (by rw [lfx_size]; decide) (by rw [lfx_size]; decide) e1 with ⟨e2, _⟩ | e2
      · rcases tab_meet (Dg (tT 6 [c])) (Dg (tT 6 [d])) vs vs mv hv mv hv e2 (Ro (Dg (tT 6 [c])) vs 67 0) (Ro (Dg (tT 6 [d])) vs 67 0) with e3 | e3
        · exact .inl ⟨e, fun q hq => tab_en e3 q hq⟩
        · exact .inr (Meet.left _ _ (Meet.left _ _ e3))
      · exact .inr (Meet.left _ _ (Meet.right _ _ e2))
    · exact .inr e1
open Go.Proofs.YtnfbagkeenjifaaGreatDoor.Oct (bytesOf_inj bytesOf_ext)
open Go.Proofs.YtnfbagkeenjifaaGreatDoor.Oct.Evt (ch ch_len hgt prt prt_no prt_yes noPrt ext_size5)

theorem Ev.inj {α : Type} {F : Nat → Option α} {v w : α} (h1 : Sha.Ev F v) (h2 : Sha.Ev F w) : v = w := by
  obtain ⟨k1, h1⟩ := h1
  obtain ⟨k2, h2⟩ := h2
  have e1 := h1 (max k1 k2) (Nat.le_max_left _ _)
  have e2 := h2 (max k1 k2) (Nat.le_max_right _ _)
  rw [e1] at e2
  exact Option.some.inj e2
theorem halves (x : ByteArray) (n : Nat) (h : n ≤ x.size) : bytesOf x = bytesOf (x.extract 0 n) ++ bytesOf (x.extract n x.size) := by
  have hl : (bytesOf x).length = x.size := bytesOf_length x
  simp only [bytesOf_ext, List.drop_zero]
  rw [List.take_of_length_le (l := bytesOf x) (i := x.size) (by omega), List.take_append_drop]
theorem halves_inj {x y : ByteArray} {n : Nat} (hx : n ≤ x.size) (hy : n ≤ y.size) (h1 : x.extract 0 n = y.extract 0 n) (h2 : x.extract n x.size = y.extract n y.size) : x = y := by
  apply bytesOf_inj
  rw [halves x n hx, halves y n hy, h1, h2]
theorem ch_inj : ∀ (d : Nat) (x y : ByteArray), x.size = 32 * d → y.size = 32 * d → ch d x = ch d y → x = y
  | 0, x, y, hx, hy, _ => by
    apply bytesOf_inj
    have h1 : (bytesOf x).length = x.size := bytesOf_length x
    have h2 : (bytesOf y).length = y.size := bytesOf_length y
    rw [List.eq_nil_of_length_eq_zero (by omega : (bytesOf x).length = 0), List.eq_nil_of_length_eq_zero (by omega : (bytesOf y).length = 0)]
  | d + 1, x, y, hx, hy, h => by
    have h' : x.extract 0 32 :: ch d (x.extract 32 x.size) = y.extract 0 32 :: ch d (y.extract 32 y.size) := h
    injection h' with h1 h2
    exact halves_inj (by omega) (by omega) h1 (ch_inj d _ _ (by rw [ext_size5 _ _ _ (by omega) (Nat.le_refl _)]; omega) (by rw [ext_size5 _ _ _ (by omega) (Nat.le_refl _)]; omega) h2)
theorem turned_parts (s t : ByteArray) (leaf : Int) (vs ps : List ByteArray) (hs : parts5 s = (leaf, vs, ps, true)) (hz : t.size = s.size) (h2 : t.extract 0 2 = s.extract 0 2) :
    ∃ us qs, parts5 t = (leaf, us, qs, true) ∧ ps.length = qs.length ∧ (vs = us → ps = qs → s = t) := by
  unfold parts5 at hs ⊢
  rw [hz, h2]
  cases e : hgt s.size with
  | none => rw [e] at hs; simp [noPrt] at hs
  | some n =>
    rw [e] at hs
    simp only at hs ⊢
    have en : s.size = 2 + 32 * (67 + n) := by
      unfold hgt at e
      split at e
      · have := Option.some.inj e
        omega
      · cases e
    by_cases c : Oct.bv 0 (bytesOf (s.extract 0 2)) ≥ 2 ^ n
    · rw [prt_no c] at hs
      simp [noPrt] at hs
    · rw [prt_yes c] at hs ⊢
      simp only [Prod.mk.injEq, and_true] at hs
      obtain ⟨rfl, rfl, rfl⟩ := hs
      refine ⟨_, _, rfl, by rw [List.length_drop, List.length_drop, ch_len, ch_len], fun h1 h3 => ?_⟩
      have h4 : ch (67 + n) (s.extract 2 s.size) = ch (67 + n) (t.extract 2 s.size) := by
        rw [← List.take_append_drop 67 (ch (67 + n) (s.extract 2 s.size)), h1, h3, List.take_append_drop]
      have h5 := ch_inj (67 + n) _ _ (by rw [ext_size5 _ _ _ (by omega) (Nat.le_refl _)]; omega) (by rw [ext_size5 _ _ _ (by omega) (by omega)]; omega) h4
      exact halves_inj (n := 2) (by omega) (by omega) h2.symm (by rw [hz]; exact h5)
/-- The turned text. -/
theorem turned_text (s : ByteArray) (b : Int) (j : Nat) (h2 : 2 ≤ j) (h3 : j < s.size) : ((s.extract 0 j ++ strOfNums [b]) ++ s.extract (j + 1) s.size).size = s.size ∧ ((s.extract 0 j ++ strOfNums [b]) ++ s.extract (j + 1) s.size).extract 0 2 = s.extract 0 2 := by
  have z1 : (s.extract 0 j).size = j := by simp; omega
  have z2 : (s.extract (j + 1) s.size).size = s.size - (j + 1) := by simp
  have z3 : (strOfNums [b]).size = 1 := by rw [strOfNums_size]; rfl
  constructor
  · rw [ByteArray.size_append, ByteArray.size_append]
    omega
  · apply bytesOf_inj
    have hl : (bytesOf s).length = s.size := bytesOf_length s
    simp only [bytesOf_ext, List.drop_zero, Oct.bytesOf_app]
    rw [List.append_assoc, List.take_append_of_le_length (by rw [List.length_take]; omega), List.take_take, Nat.min_eq_left h2]
end Go.Proofs.YtnfbagkeenjifaaGreatDoor.Sha
