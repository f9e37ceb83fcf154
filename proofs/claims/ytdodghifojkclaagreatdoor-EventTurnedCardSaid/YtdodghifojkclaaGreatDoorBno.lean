/-
  One signature that is right for two messages: its ways part and meet, or a chain comes round.
  Conditions: none.
-/
import Derived.Test.YtdodghifojkclaaGreatDoorChk
import Derived.Test.YtdodghifojkclaaGreatDoorMrk
import Derived.Test.YtdodghifojkclaaGreatDoorPPx3
namespace Go.Proofs.YtdodghifojkclaaGreatDoor.Sha
open Go.RowKit Go.Proofs.YtdodghifojkclaaGreatDoor.PP Go.Proofs.YtdodghifojkclaaGreatDoorW.PrintWords Go.Proofs.YtdodghifojkclaaGreatDoorW.PrintLast Go.Proofs.YtdodghifojkclaaGreatDoorW.PrintMore
set_option linter.unusedSimpArgs false
set_option linter.unusedVariables false

/-! two texts of one digest are found -/
def sm (l : List ByteArray) (q : Nat) : ByteArray := dg (rdOf ByteArray.empty l (q : Int))
theorem cl_two (l : List ByteArray) (hl : l.length ≤ 5000) (p q : Nat) (hp : p < l.length) (hq : q < p) (hn : l[p] ≠ l[q]'(by omega)) (hd : dg l[p] = dg (l[q]'(by omega))) (i : Nat) (hi : i ≤ p) (hend : i ≠ p → Sha.Ev (fun k => Jf.l1 k l (tab (sm l) l.length) ((i + 1 : Nat) : Int)) true) :
    ∀ (d j : Nat), j + d = i → (i = p → j ≤ q) → Sha.Ev (fun k => Jf.l2 k l (tab (sm l) l.length) (i : Int) (j : Int)) true
  | 0, j, h, hj => by
    have hip : i ≠ p := fun e => by have := hj e; omega
    refine Ev.succ (fun k => ?_) (hend hip)
    simp only [Jf.l2, upI i (by omega)]
    rw [if_neg (by omega)]
  | d + 1, j, h, hj => by
    have hil : i < l.length := by omega
    have hjl : j < l.length := by omega
    have hlen := tab_len (sm l) l.length
    have t1 := tab_at (sm l) l.length i hil
    have t2 := tab_at (sm l) l.length j hjl
    have r1 := rdo_get l i hil
    have r2 := rdo_get l j hjl
    have i0 : (j : Int) < (i : Int) := by omega
    have i1 : (0 : Int) ≤ (i : Int) := by omega
    have i2 : (i : Int) < ((tab (sm l) l.length).length : Int) := by omega
    have i3 : (0 : Int) ≤ (j : Int) := by omega
    have i4 : (j : Int) < ((tab (sm l) l.length).length : Int) := by omega
    have i5 : (i : Int) < (l.length : Int) := by omega
    have i6 : (j : Int) < (l.length : Int) := by omega
    by_cases c : dg l[i] = dg l[j]
    · by_cases c2 : l[i] = l[j]
      · have ih := cl_two l hl p q hp hq hn hd i hi hend d (j + 1) (by omega) (fun e => by
          have := hj e
          by_cases e2 : j = q
          · exfalso
            subst e2 e
            exact hn c2
          · omega)
        refine Ev.succ (fun k => ?_) ih
        simp only [Jf.l2, upI j (by omega), t1, t2, if_pos i0, if_pos i1, if_pos i2, if_pos i3, if_pos i4, if_pos i5, if_pos i6]
        unfold sm
        rw [r1, r2, if_pos (congrArg ByteArray.toList c), if_pos (congrArg ByteArray.toList c2)]
      · refine Ev.succ (G := fun _ => some true) (fun k => ?_) (Ev.pure _)
        simp only [Jf.l2, upI j (by omega), t1, t2, if_pos i0, if_pos i1, if_pos i2, if_pos i3, if_pos i4, if_pos i5, if_pos i6]
        unfold sm
        rw [r1, r2, if_pos (congrArg ByteArray.toList c), if_neg (fun e => c2 ((Oct.toList_eq _ _).1 e))]
    · have ih := cl_two l hl p q hp hq hn hd i hi hend d (j + 1) (by omega) (fun e => by
        have := hj e
        by_cases e2 : j = q
        · exfalso
          subst e2 e
          exact c hd
        · omega)
      refine Ev.succ (fun k => ?_) ih
      simp only [Jf.l2, upI j (by omega), t1, t2, if_pos i0, if_pos i1, if_pos i2, if_pos i3, if_pos i4]
      unfold sm
      rw [r1, r2, if_neg (fun e => c ((Oct.toList_eq _ _).1 e))]
theorem cl_one (l : List ByteArray) (hl : l.length ≤ 5000) (p q : Nat) (hp : p < l.length) (hq : q < p) (hn : l[p] ≠ l[q]'(by omega)) (hd : dg l[p] = dg (l[q]'(by omega))) : ∀ (d i : Nat), i + d = p → Sha.Ev (fun k => Jf.l1 k l (tab (sm l) l.length) (i : Int)) true
  | 0, i, h => by
    have := cl_two l hl p q hp hq hn hd i (by omega) (fun e => by omega) i 0 (by omega) (fun _ => by omega)
    refine Ev.succ (fun k => ?_) this
    simp only [Jf.l1]
    rw [if_pos (by omega)]
    rfl
  | d + 1, i, h => by
    have ih := cl_one l hl p q hp hq hn hd d (i + 1) (by omega)
    have := cl_two l hl p q hp hq hn hd i (by omega) (fun _ => ih) i 0 (by omega) (fun e => by omega)
    refine Ev.succ (fun k => ?_) this
    simp only [Jf.l1]
    rw [if_pos (by omega)]
    rfl
theorem cl_zero (l : List ByteArray) (hl : l.length ≤ 5000) (hm : ∀ s ∈ l, s.size ≤ 140737488355000) {b : Bool} (hv : Sha.Ev (fun k => Jf.l1 k l (tab (sm l) l.length) 0) b) : ∀ (d j : Nat), j + d = l.length → Sha.Ev (fun k => Jf.l0 k l (tab (sm l) j ++ List.replicate d (⟨#[]⟩ : ByteArray)) (j : Int)) b
  | 0, j, h => by
    obtain rfl : j = l.length := by omega
    refine Ev.succ (fun k => ?_) hv
    simp only [Jf.l0, List.replicate_zero, List.append_nil]
    rw [if_neg (by omega)]
  | d + 1, j, h => by
    have hj : j < l.length := by omega
    have ih := cl_zero l hl hm hv d (j + 1) (by omega)
    have r1 := ref_ev (rdOf ByteArray.empty l (j : Int)) (by rw [rdo_get l j hj]; exact hm _ (List.getElem_mem hj))
    have hlen := tab_len (sm l) j
    have e : (tab (sm l) j ++ List.replicate (d + 1) (⟨#[]⟩ : ByteArray)).set j (sm l j) = tab (sm l) (j + 1) ++ List.replicate d (⟨#[]⟩ : ByteArray) := by
      rw [List.set_append_right _ _ (by omega), hlen, Nat.sub_self, List.replicate_succ, List.set_cons_zero, tab_succ, List.append_assoc]
      rfl
    rw [← e] at ih
    have hlim : (j : Int) < ((tab (sm l) j ++ List.replicate (d + 1) (⟨#[]⟩ : ByteArray)).length : Int) := by
      rw [List.length_append, List.length_replicate]
      omega
    refine Ev.succ (G := fun k => (Ja.f k (rdOf ByteArray.empty l (j : Int))).bind fun t => (if (j : Int) < ((tab (sm l) j ++ List.replicate (d + 1) (⟨#[]⟩ : ByteArray)).length : Int) then (Jf.l0 k l ((tab (sm l) j ++ List.replicate (d + 1) (⟨#[]⟩ : ByteArray)).set j t) ((j + 1 : Nat) : Int)) else none)) (fun k => ?_) (Ev.bind r1 (ifs hlim ih))
    simp only [Jf.l0, upI j (by omega), Int.toNat_natCast]
    rw [if_pos (by omega), if_pos (by omega)]
theorem clash3 (l : List ByteArray) (hl : l.length ≤ 5000) (hm : ∀ s ∈ l, s.size ≤ 140737488355000) (u v : ByteArray) (hu : u ∈ l) (hv : v ∈ l) (hn : u ≠ v) (hd : dg u = dg v) : Sha.Ev (fun k => Jf.f k l) true := by
  have key : Sha.Ev (fun k => Jf.l1 k l (tab (sm l) l.length) 0) true := by
    obtain ⟨i, hi, rfl⟩ := List.getElem_of_mem hu
    obtain ⟨j, hj, rfl⟩ := List.getElem_of_mem hv
    rcases Nat.lt_trichotomy i j with h | h | h
    · exact cl_one l hl j i hj h (fun e => hn e.symm) hd.symm j 0 (by omega)
    · subst h
      exact absurd rfl hn
    · exact cl_one l hl i j hi h hn hd i 0 (by omega)
  have := cl_zero l hl hm key l.length 0 (by omega)
  unfold Jf.f
  refine ifs (by omega) ?_
  rw [Int.toNat_natCast]
  refine ifs (by omega) ?_
  exact this
/-! ways that part and meet -/
theorem inT_inj (t : Int) (l m : List ByteArray) (hl : ∀ s ∈ l, s.size ≤ 2000) (hm : ∀ s ∈ m, s.size ≤ 2000) (h : inT t l = inT t m) : l = m := by
  unfold inT at h
  have h2 := congrArg ByteArray.toList h
  rw [toList_mk, toList_mk] at h2
  exact cat_inj l m hl hm (List.append_inj h2 rfl).2
theorem Rs_size (q : Nat) : ∀ (n : Nat) (x : ByteArray), x.size ≤ 300 → ∀ s ∈ Rs q n x, s.size ≤ 140737488355000
  | 0, _, _ => by intro s hs; cases hs
  | n + 1, x, hx => by
    intro s hs
    rcases List.mem_cons.1 hs with rfl | hs
    · exact small_size 1 _ (two_mem q x hx) (by simp)
    · exact Rs_size q n (stp q x) (by rw [stp_size]; decide) s hs
theorem Ro_size (st : List Int) (l : List ByteArray) (hl : l.length = 67) (hm : ∀ s ∈ l, s.size ≤ 300) : ∀ (d j : Nat), j + d = 67 → ∀ s ∈ Ro st l d j, s.size ≤ 140737488355000
  | 0, _, _ => by intro s hs; cases hs
  | d + 1, j, h => by
    intro s hs
    rcases List.mem_append.1 hs with hs | hs
    · exact Rs_size j _ _ (by rw [rdo_get l j (by omega)]; exact hm _ (List.getElem_mem _)) s hs
    · exact Ro_size st l hl hm d (j + 1) (by omega) s hs
theorem road_ok (d : ByteArray) (l : List ByteArray) (hl : l.length = 67) (hm : ∀ s ∈ l, s.size ≤ 300) : (∀ s ∈ Ro (Dg d) l 67 0 ++ [inT 3 (tab (en (Dg d) l) 67)], s.size ≤ 140737488355000) ∧ (Ro (Dg d) l 67 0 ++ [inT 3 (tab (en (Dg d) l) 67)]).length ≤ 1006 := by
  constructor
  · intro s hs
    rcases List.mem_append.1 hs with hs | hs
    · exact Ro_size _ l hl hm 67 0 (by omega) s hs
    · rw [List.mem_singleton.1 hs]
      exact small_size 3 _ (tab_mem _ _ _ (fun p hp => by have := en_size (Dg d) l hm hl p hp; omega)) (by rw [tab_len]; decide)
  · have := Ro_len (Dg d) l 67 0
    rw [List.length_append]
    simp
    omega
open Go.Proofs.YtdodghifojkclaaGreatDoor.Oct.Evt (parts5 parts5_ok one_mem pair_mem two_nonneg named_ev rnamed_ev Fo_size)

/-- Two lists hold two unlike texts of one digest, one each. -/
def Meet (r q : List ByteArray) : Prop := ∃ u ∈ r, ∃ v ∈ q, u ≠ v ∧ dg u = dg v
theorem Meet.left {r q : List ByteArray} (x y : List ByteArray) (h : Meet r q) : Meet (r ++ x) (q ++ y) := by
  obtain ⟨u, hu, v, hv, h⟩ := h
  exact ⟨u, List.mem_append.2 (.inl hu), v, List.mem_append.2 (.inl hv), h⟩
theorem Meet.right {r q : List ByteArray} (x y : List ByteArray) (h : Meet r q) : Meet (x ++ r) (y ++ q) := by
  obtain ⟨u, hu, v, hv, h⟩ := h
  exact ⟨u, List.mem_append.2 (.inr hu), v, List.mem_append.2 (.inr hv), h⟩
theorem Meet.clash {r q : List ByteArray} (h : Meet r q) (hr : ∀ s ∈ r, s.size ≤ 140737488355000) (hq : ∀ s ∈ q, s.size ≤ 140737488355000) (lr : r.length ≤ 2000) (lq : q.length ≤ 2000) :
    Sha.Ev (fun k => Jf.f k (r ++ q)) true := by
  obtain ⟨u, hu, v, hv, hn, hd⟩ := h
  refine clash3 (r ++ q) (by rw [List.length_append]; omega) (fun s hs => ?_) u v (List.mem_append.2 (.inl hu)) (List.mem_append.2 (.inr hv)) hn hd
  rcases List.mem_append.1 hs with hs | hs
  · exact hr s hs
  · exact hq s hs
/-! chains -/
theorem tab_meet (st st2 : List Int) (l m : List ByteArray) (ml : ∀ s ∈ l, s.size ≤ 300) (hl : l.length = 67) (mm : ∀ s ∈ m, s.size ≤ 300) (hm : m.length = 67) (h : rc st l = rc st2 m) (x y : List ByteArray) :
    tab (en st l) 67 = tab (en st2 m) 67 ∨ Meet (x ++ [inT 3 (tab (en st l) 67)]) (y ++ [inT 3 (tab (en st2 m) 67)]) := by
  by_cases c : tab (en st l) 67 = tab (en st2 m) 67
  · exact .inl c
  · refine .inr (Meet.right _ _ ⟨_, List.mem_singleton.2 rfl, _, List.mem_singleton.2 rfl, fun e => c ?_, h⟩)
    exact inT_inj 3 _ _ (tab_mem _ _ _ (fun p hp => by have := en_size st l ml hl p hp; omega)) (tab_mem _ _ _ (fun p hp => by have := en_size st2 m mm hm p hp; omega)) e
theorem tab_en {st st2 : List Int} {l m : List ByteArray} (h : tab (en st l) 67 = tab (en st2 m) 67) (q : Nat) (hq : q < 67) : en st l q = en st2 m q := by
  rw [← tab_at (en st l) 67 q hq, ← tab_at (en st2 m) 67 q hq, h]
/-! paths -/
theorem pr_inj2 (i : Int) (x y p q : ByteArray) (h : pr i x p = pr i y q) : x = y ∧ p = q := by
  unfold pr at h
  split at h
  · simp at h; exact ⟨h.2, h.1⟩
  · simpa using h
theorem fold_meet : ∀ (ps qs : List ByteArray) (i : Int) (x y : ByteArray), ps.length = qs.length → (∀ s ∈ ps, s.size ≤ 300) → (∀ s ∈ qs, s.size ≤ 300) → x.size ≤ 300 → y.size ≤ 300 → Fo ps i x = Fo qs i y →
    (x = y ∧ ps = qs) ∨ Meet (Rd ps i x) (Rd qs i y)
  | [], [], i, x, y, _, _, _, _, _, h => .inl ⟨h, rfl⟩
  | [], q :: qs, _, _, _, hl, _, _, _, _, _ => by simp at hl
  | p :: ps, [], _, _, _, hl, _, _, _, _, _ => by simp at hl
  | p :: ps, q :: qs, i, x, y, hl, hp, hq, hx, hy, h => by
    have hpp := hp p (by simp)
    have hqq := hq q (by simp)
    rcases fold_meet ps qs (i / 2) (tg (pr i x p)) (tg (pr i y q)) (by simpa using hl) (fun s hs => hp s (List.mem_cons_of_mem _ hs)) (fun s hs => hq s (List.mem_cons_of_mem _ hs)) (tg_size _) (tg_size _) h with ⟨c1, c2⟩ | ⟨u, hu, v, hv, c⟩
    · by_cases e : inp (pr i x p) = inp (pr i y q)
      · obtain ⟨h1, h2⟩ := pr_inj2 i x y p q (inp_inj _ _ (pr_mem i x p (by omega) (by omega)) (pr_mem i y q (by omega) (by omega)) e)
        exact .inl ⟨h1, by rw [h2, c2]⟩
      · exact .inr ⟨_, List.mem_cons_self .., _, List.mem_cons_self .., e, c1⟩
    · exact .inr ⟨u, List.mem_cons_of_mem _ hu, v, List.mem_cons_of_mem _ hv, c⟩
/-! the way of a signature -/
def lfx (c : ByteArray) (vs : List ByteArray) : ByteArray := rc (Dg (tT 6 [c])) vs
def top (c : ByteArray) (leaf : Int) (vs ps : List ByteArray) : ByteArray := Fo ps leaf (lfx c vs)
def pbx (c : ByteArray) (leaf : Int) (vs ps : List ByteArray) : ByteArray := tT 5 [one ps.length, top c leaf vs ps]
def way (c : ByteArray) (leaf : Int) (vs ps : List ByteArray) : List ByteArray :=
  ((Ro (Dg (tT 6 [c])) vs 67 0 ++ [inT 3 (tab (en (Dg (tT 6 [c])) vs) 67)]) ++ Rd ps leaf (lfx c vs)) ++ [inT 5 [one ps.length, top c leaf vs ps], inT 6 [c]]
theorem lfx_size (c : ByteArray) (vs : List ByteArray) : (lfx c vs).size = 32 := tT_size _ _
theorem top_size (c : ByteArray) (leaf : Int) (vs ps : List ByteArray) : (top c leaf vs ps).size ≤ 300 := Fo_size ps leaf _ (by rw [lfx_size]; decide)
theorem way_ok (c : ByteArray) (hc : c.size ≤ 2000) (leaf : Int) (vs ps : List ByteArray) (hv : vs.length = 67) (mv : ∀ s ∈ vs, s.size ≤ 300) (hp : ps.length ≤ 4) (mp : ∀ s ∈ ps, s.size ≤ 300) :
    (∀ s ∈ way c leaf vs ps, s.size ≤ 140737488355000) ∧ (way c leaf vs ps).length ≤ 1012 := by
  have h1 := road_ok (tT 6 [c]) vs hv mv
  have h2 := Rd_len ps leaf (lfx c vs)
  have ht := top_size c leaf vs ps
  unfold way
  constructor
  · intro s hs
    rcases List.mem_append.1 hs with hs | hs
    · rcases List.mem_append.1 hs with hs | hs
      · exact h1.1 s hs
      · exact Rd_size ps leaf _ mp (by rw [lfx_size]; decide) s hs
    · rcases List.mem_cons.1 hs with rfl | hs
      · exact small_size 5 _ (pair_mem _ _ (by rw [one_size]; decide) (by omega)) (by simp)
      · rw [List.mem_singleton.1 hs]
        exact small_size 6 _ (one_mem c hc) (by simp)
  · rw [List.length_append, List.length_append, h2]
    have := h1.2
    simp only [List.length_cons, List.length_nil]
    omega
theorem verify_way (a c s : ByteArray) (hc : c.size ≤ 2000) (hs : s.size ≤ 100000) (leaf : Int) (vs ps : List ByteArray) (e : parts5 s = (leaf, vs, ps, true)) :
    Sha.Ev (fun k => Us.f k a c s) ((pbx c leaf vs ps).toList == a.toList) ∧ Sha.Ev (fun k => Uf.f k a c s) ((pbx c leaf vs ps).toList == a.toList, way c leaf vs ps) := by
  have h1 := Oct.Evt.kp_ev s hs
  have h2 := Oct.Evt.rp_ev s hs
  rw [e] at h1 h2
  obtain ⟨n, hn, hv, hp, mv, mp, hl, hl2, h2s⟩ := parts5_ok e
  have hl0 : 0 ≤ leaf := by rw [hl2]; exact two_nonneg s
  have hd : (tT 6 [c]).size = 32 := tT_size _ _
  have hr : (lfx c vs).size = 32 := lfx_size _ _
  have fc : ps.length ≤ 4 ∧ 0 ≤ leaf ∧ leaf < 2 ^ ps.length := ⟨by omega, hl0, by rw [hp]; exact hl⟩
  have tgx := tagT 6 [c] (one_mem c hc) (by simp)
  have rtg := rtagT 6 (by decide) [c] (one_mem c hc) (by simp)
  have rv := recover_ev (tT 6 [c]) vs (fun _ => mv)
  rw [if_pos ⟨hd, hv⟩] at rv
  have rrv := rrecover_ev (tT 6 [c]) hd vs mv hv
  have fo := fold_ev (lfx c vs) (by omega) leaf ps (fun _ => mp)
  have rfo := rfold_ev (lfx c vs) (by omega) leaf ps (fun _ => mp)
  unfold fold at fo
  rw [if_pos fc] at fo
  unfold rfold at rfo
  rw [if_pos fc] at rfo
  have hf := top_size c leaf vs ps
  have rl := (road_ok (tT 6 [c]) vs hv mv).2
  have dl : (Rd ps leaf (lfx c vs)).length = ps.length := Rd_len ps leaf _
  unfold pbx way
  change (Fo ps leaf (lfx c vs)).size ≤ 300 at hf
  change Sha.Ev _ (lfx c vs, true) at rv
  change Sha.Ev _ (lfx c vs, _) at rrv
  unfold top
  generalize lfx c vs = x at *
  generalize (Ro (Dg (tT 6 [c])) vs 67 0 ++ [inT 3 (tab (en (Dg (tT 6 [c])) vs) 67)]) = road at *
  generalize Fo ps leaf x = y at *
  generalize Rd ps leaf x = more at *
  have na := named_ev ps.length (by omega) y hf
  have rna := rnamed_ev ps.length (by omega) y hf
  have rno := rone_ev ps.length (by omega)
  have i5 : Sha.Ev _ (inT 5 [one ps.length, y]) := rinput_small 5 (by decide) [one ps.length, y] (pair_mem _ _ (by rw [one_size]; decide) (by omega)) (by simp)
  have i6 : Sha.Ev _ (inT 6 [c]) := rinput_small 6 (by decide) [c] (one_mem c hc) (by simp)
  generalize inT 5 [one ps.length, y] = u5 at *
  generalize inT 6 [c] = u6 at *
  constructor
  · unfold Us.f
    exact Sha.Ev.bind h1 (ifs rfl (Sha.Ev.bind tgx (Sha.Ev.bind rv (Sha.Ev.bind fo (Sha.Ev.bind na (Sha.Ev.pure _))))))
  · unfold Uf.f
    refine Sha.Ev.bind h2 (ifs rfl (Sha.Ev.bind rtg (Sha.Ev.bind rrv (Sha.Ev.bind rfo (Sha.Ev.bind rno ?_)))))
    refine ifs (by show road.length + more.length < 8796093022208; omega) ?_
    refine Sha.Ev.bind (v := road ++ more) (Sha.Ev.pure _) (Sha.Ev.bind i5 (Sha.Ev.bind i6 (Sha.Ev.bind (v := [u5, u6]) (Sha.Ev.pure _) (ifs (by show (road ++ more).length + 2 < 8796093022208; rw [List.length_append]; omega) (Sha.Ev.bind rna (Sha.Ev.pure _))))))
/-! two right signatures -/
theorem top_meet (c d : ByteArray) (leaf : Int) (vs us ps qs : List ByteArray) (hl : ps.length = qs.length) (h : pbx c leaf vs ps = pbx d leaf us qs) :
    top c leaf vs ps = top d leaf us qs ∨ Meet (way c leaf vs ps) (way d leaf us qs) := by
  have h1 := top_size c leaf vs ps
  have h2 := top_size d leaf us qs
  by_cases e : inT 5 [one ps.length, top c leaf vs ps] = inT 5 [one qs.length, top d leaf us qs]
  · left
    have := inT_inj 5 _ _ (pair_mem _ _ (by rw [one_size]; decide) (by omega)) (pair_mem _ _ (by rw [one_size]; decide) (by omega)) e
    simpa [hl] using this
  · right
    unfold way
    exact Meet.right _ _ ⟨_, List.mem_cons_self .., _, List.mem_cons_self .., e, h⟩
theorem other_meet (c d : ByteArray) (hn : c ≠ d) (hc : c.size ≤ 2000) (hd : d.size ≤ 2000) (leaf : Int) (vs ps : List ByteArray) (hv : vs.length = 67) (mv : ∀ s ∈ vs, s.size ≤ 300) (mp : ∀ s ∈ ps, s.size ≤ 300)
    (h : pbx c leaf vs ps = pbx d leaf vs ps) : (tT 6 [c] ≠ tT 6 [d] ∧ ∀ q, q < 67 → en (Dg (tT 6 [c])) vs q = en (Dg (tT 6 [d])) vs q) ∨ Meet (way c leaf vs ps) (way d leaf vs ps) := by
  by_cases e : tT 6 [c] = tT 6 [d]
  · right
    unfold way
    refine Meet.right _ _ ⟨inT 6 [c], by simp, inT 6 [d], by simp, fun z => hn ?_, e⟩
    have := inT_inj 6 _ _ (one_mem c hc) (one_mem d hd) z
    simpa using this
  · rcases top_meet c d leaf vs vs ps ps rfl h with e1 | e1
    · rcases fold_meet ps ps leaf (lfx c vs) (lfx d vs) rfl mp mp (by rw [lfx_size]; decide) (by rw [lfx_size]; decide) e1 with ⟨e2, _⟩ | e2
      · rcases tab_meet (Dg (tT 6 [c])) (Dg (tT 6 [d])) vs vs mv hv mv hv e2 (Ro (Dg (tT 6 [c])) vs 67 0) (Ro (Dg (tT 6 [d])) vs 67 0) with e3 | e3
        · exact .inl ⟨e, fun q hq => tab_en e3 q hq⟩
        · exact .inr (Meet.left _ _ (Meet.left _ _ e3))
      · exact .inr (Meet.left _ _ (Meet.right _ _ e2))
    · exact .inr e1
open Go.Proofs.YtdodghifojkclaaGreatDoor.Oct (bytesOf_inj bytesOf_ext)
open Go.Proofs.YtdodghifojkclaaGreatDoor.Oct.Evt (ch ch_len hgt prt prt_no prt_yes noPrt ext_size5)

theorem Ev.inj {α : Type} {F : Nat → Option α} {v w : α} (h1 : Sha.Ev F v) (h2 : Sha.Ev F w) : v = w := by
  obtain ⟨k1, h1⟩ := h1
  obtain ⟨k2, h2⟩ := h2
  have e1 := h1 (max k1 k2) (Nat.le_max_left _ _)
  have e2 := h2 (max k1 k2) (Nat.le_max_right _ _)
  rw [e1] at e2
  exact Option.some.inj e2

theorem hx_inj : ∀ (l m : List Int), hx l = hx m → l = m
  | [], [], _ => rfl
  | [], _ :: _, h => by cases h
  | _ :: _, [], h => by cases h
  | a :: l, b :: m, h => by
    have h' : a / 16 :: a % 16 :: hx l = b / 16 :: b % 16 :: hx m := h
    injection h' with h1 h2
    injection h2 with h2 h3
    rw [hx_inj l m h3, show a = b by omega]
theorem Dg_inj {d e : ByteArray} (hd : d.size = 32) (he : e.size = 32) (h : Dg d = Dg e) : d = e := by
  unfold Dg at h
  have h1 := (List.append_inj h (by rw [hx_len, hx_len, bytesOf_length, bytesOf_length, hd, he])).1
  exact Oct.bytesOf_inj (hx_inj _ _ h1)
theorem digits_ne {d e : ByteArray} (hd : d.size = 32) (he : e.size = 32) (hn : d ≠ e) : ∃ q, q < 67 ∧ dn (Dg d) q ≠ dn (Dg e) q := by
  refine Classical.byContradiction fun z => hn (Dg_inj hd he (List.ext_getElem (by rw [Dg_len d hd, Dg_len e he]) fun q h1 h2 => ?_))
  have hq : q < 67 := by rw [Dg_len d hd] at h1; exact h1
  have e0 : dn (Dg d) q = dn (Dg e) q := Classical.byContradiction fun e => z ⟨q, hq, e⟩
  have m1 := Dg_mem d hd _ (List.getElem_mem h1)
  have m2 := Dg_mem e he _ (List.getElem_mem h2)
  unfold dn rd at e0
  simp only [Int.toNat_natCast, List.getD_eq_getElem?_getD, List.getElem?_eq_getElem h1, List.getElem?_eq_getElem h2, Option.getD_some] at e0
  omega
/-- No two of the first texts of a chain are one. -/
def Un (q : Nat) (v : ByteArray) (n : Nat) : Prop := ∀ a b, a < b → b ≤ n → Chn q a v ≠ Chn q b v
theorem comes_round {d e v : ByteArray} {q : Nat} (hd : d.size = 32) (he : e.size = 32) (hq : q < 67) (hn : dn (Dg d) q ≠ dn (Dg e) q) (h : Chn q (15 - dn (Dg d) q) v = Chn q (15 - dn (Dg e) q) v) : ¬ Un q v 15 := by
  have h1 := (dn_eq (Dg d) (Dg_len d hd) (Dg_mem d hd) q hq).2
  have h2 := (dn_eq (Dg e) (Dg_len e he) (Dg_mem e he) q hq).2
  intro u
  rcases Nat.lt_or_gt_of_ne hn with c | c
  · exact u _ _ (show 15 - dn (Dg e) q < 15 - dn (Dg d) q by omega) (by omega) h.symm
  · exact u _ _ (show 15 - dn (Dg d) q < 15 - dn (Dg e) q by omega) (by omega) h
abbrev sq_ (q : Nat) (v : ByteArray) (n : Nat) : List ByteArray := tab (fun p => Chn q p v) n
theorem rstep_ev (q : Nat) (hq : q < 256) (x : ByteArray) (hx : x.size ≤ 300) : Sha.Ev (fun k => Uh.f k (q : Int) x) (stp q x) := by
  have h := rstp_ev (q : Int) (by omega) (by omega) x hx
  rw [show ((q : Int) % 256).toNat = q by omega] at h
  exact h
theorem rn_l2 (vs : List ByteArray) (q : Nat) (v : ByteArray) (i : Nat) (hi : i < 15) (hu : Un q v i) (hnext : Un q v (i + 1) → Sha.Ev (fun k => Jj.l1 k vs (q : Int) (sq_ q v (i + 2)) ((i + 1 : Nat) : Int)) true) :
    ∀ (d j : Nat), j + d = i + 1 → (∀ p, p < j → Chn q p v ≠ Chn q (i + 1) v) → Sha.Ev (fun k => Jj.l2 k vs (q : Int) (sq_ q v (i + 1)) (i : Int) (Chn q (i + 1) v) (j : Int)) true
  | 0, j, h, hj => by
    have hl : (sq_ q v (i + 1)).length = i + 1 := tab_len _ _
    have := hnext (fun a b hab hb => by
      rcases Nat.lt_or_ge b (i + 1) with c | c
      · exact hu a b hab (by omega)
      · obtain rfl : b = i + 1 := by omega
        exact hj a (by omega))
    refine Ev.succ (fun k => Jj.l2.eq_2 vs (q : Int) (sq_ q v (i + 1)) (i : Int) (Chn q (i + 1) v) (j : Int) k) (ifn (by omega) (ifs (by omega) ?_))
    rw [upI i (by omega), ← tab_succ (fun p => Chn q p v) (i + 1)]
    exact this
  | d + 1, j, h, hj => by
    have hl : (sq_ q v (i + 1)).length = i + 1 := tab_len _ _
    refine Ev.succ (fun k => Jj.l2.eq_2 vs (q : Int) (sq_ q v (i + 1)) (i : Int) (Chn q (i + 1) v) (j : Int) k) (ifs (by omega) (ifs (by omega) (ifs (by omega) ?_)))
    rw [tab_at _ _ _ (by omega), upI j (by omega)]
    by_cases c : Chn q j v = Chn q (i + 1) v
    · exact ifs (congrArg ByteArray.toList c) (Ev.pure _)
    · refine ifn (fun e => c ((Oct.toList_eq _ _).1 e)) (rn_l2 vs q v i hi hu hnext d (j + 1) (by omega) (fun p hp => ?_))
      by_cases e : p = j
      · subst e; exact c
      · exact hj p (by omega)
theorem rn_l1 (vs : List ByteArray) (q : Nat) (hq : q < 256) (v : ByteArray) (hv : v.size ≤ 300) (hnext : Un q v 15 → Sha.Ev (fun k => Jj.l0 k vs ((q + 1 : Nat) : Int)) true) :
    ∀ (d i : Nat), i + d = 15 → Un q v i → Sha.Ev (fun k => Jj.l1 k vs (q : Int) (sq_ q v (i + 1)) (i : Int)) true
  | 0, i, h, hu => by
    obtain rfl : i = 15 := by omega
    refine Ev.succ (fun k => Jj.l1.eq_2 vs (q : Int) (sq_ q v (15 + 1)) ((15 : Nat) : Int) k) (ifn (by omega) ?_)
    rw [upI q (by omega)]
    exact hnext hu
  | d + 1, i, h, hu => by
    have hl : (sq_ q v (i + 1)).length = i + 1 := tab_len _ _
    have ih := rn_l2 vs q v i (by omega) hu (fun u => rn_l1 vs q hq v hv hnext d (i + 1) (by omega) u) (i + 1) 0 (by omega) (fun p hp => by omega)
    refine Ev.succ (fun k => Jj.l1.eq_2 vs (q : Int) (sq_ q v (i + 1)) (i : Int) k) (ifs (by omega) (ifs (by omega) (ifs (by omega) ?_)))
    rw [tab_at _ _ _ (by omega)]
    have hs := rstep_ev q hq (Chn q i v) (Chn_size q i v hv)
    have e1 : stp q (Chn q i v) = Chn q (i + 1) v := by rw [← Chn_add q i 1 v]; rfl
    rw [e1] at hs
    exact Ev.bind hs ih
theorem rn_l0 (vs : List ByteArray) (hl : vs.length = 67) (mv : ∀ s ∈ vs, s.size ≤ 300) : ∀ (d q : Nat), q + d = 67 → (∃ p, ∃ hp : p < 67, q ≤ p ∧ ¬ Un p (vs[p]'(by omega)) 15) → Sha.Ev (fun k => Jj.l0 k vs (q : Int)) true
  | 0, q, h, ⟨p, hp, hqp, _⟩ => by omega
  | d + 1, q, h, ⟨p, hp, hqp, hu⟩ => by
    have hq : q < vs.length := by omega
    have ih := rn_l1 vs q (by omega) (vs[q]) (mv _ (List.getElem_mem hq)) (fun u => rn_l0 vs hl mv d (q + 1) (by omega) ⟨p, hp, by
      by_cases e : p = q
      · subst e; exact absurd u hu
      · omega, hu⟩) 15 0 (by omega) (fun a b hab hb => by omega)
    refine Ev.succ (fun k => Jj.l0.eq_2 vs (q : Int) k) (ifs (by omega) (ifs (by omega) ?_))
    rw [rdo_get vs q hq]
    exact ih
theorem round_ev (s : ByteArray) (hs : s.size ≤ 100000) (leaf : Int) (vs ps : List ByteArray) (e : Oct.Evt.parts5 s = (leaf, vs, ps, true)) (hl : vs.length = 67) (mv : ∀ s ∈ vs, s.size ≤ 300) (p : Nat) (hp : p < 67) (hu : ¬ Un p (vs[p]'(by omega)) 15) :
    Sha.Ev (fun k => Jj.f k s) true := by
  have h := Oct.Evt.rp_ev s hs
  rw [e] at h
  unfold Jj.f
  exact Ev.bind h (rn_l0 vs hl mv 67 0 (by omega) ⟨p, hp, Nat.zero_le _, hu⟩)
/-! whether there is a clash is always found out -/
theorem cl2_any (l : List ByteArray) (hl : l.length ≤ 5000) (i : Nat) (hi : i < l.length) (c : Bool) (hend : Sha.Ev (fun k => Jf.l1 k l (tab (sm l) l.length) ((i + 1 : Nat) : Int)) c) :
    ∀ (d j : Nat), j + d = i → ∃ b, Sha.Ev (fun k => Jf.l2 k l (tab (sm l) l.length) (i : Int) (j : Int)) b
  | 0, j, h => by
    refine ⟨c, Ev.succ (fun k => ?_) hend⟩
    simp only [Jf.l2, upI i (by omega)]
    rw [if_neg (by omega)]
  | d + 1, j, h => by
    obtain ⟨b, ih⟩ := cl2_any l hl i hi c hend d (j + 1) (by omega)
    have hlen : (tab (sm l) l.length).length = l.length := tab_len (sm l) l.length
    have hup := upI j (by omega)
    by_cases c1 : (rdOf ByteArray.empty (tab (sm l) l.length) (i : Int)).toList = (rdOf ByteArray.empty (tab (sm l) l.length) (j : Int)).toList
    · by_cases c2 : (rdOf ByteArray.empty l (i : Int)).toList = (rdOf ByteArray.empty l (j : Int)).toList
      · refine ⟨b, Ev.succ (fun k => Jf.l2.eq_2 l (tab (sm l) l.length) (i : Int) (j : Int) k) (ifs (by omega) (ifs (by omega) (ifs (by omega) (ifs (by omega) (ifs (by omega) (ifs c1 (ifs (by omega) (ifs (by omega) ?_))))))))⟩
        refine ifs c2 ?_
        rw [hup]
        exact ih
      · refine ⟨true, Ev.succ (fun k => Jf.l2.eq_2 l (tab (sm l) l.length) (i : Int) (j : Int) k) (ifs (by omega) (ifs (by omega) (ifs (by omega) (ifs (by omega) (ifs (by omega) (ifs c1 (ifs (by omega) (ifs (by omega) ?_))))))))⟩
        exact ifn c2 (Ev.pure _)
    · refine ⟨b, Ev.succ (fun k => Jf.l2.eq_2 l (tab (sm l) l.length) (i : Int) (j : Int) k) (ifs (by omega) (ifs (by omega) (ifs (by omega) (ifs (by omega) (ifs (by omega) (ifn c1 ?_))))))⟩
      rw [hup]
      exact ih
theorem cl1_any (l : List ByteArray) (hl : l.length ≤ 5000) : ∀ (d i : Nat), i + d = l.length → ∃ b, Sha.Ev (fun k => Jf.l1 k l (tab (sm l) l.length) (i : Int)) b
  | 0, i, h => ⟨false, Ev.succ (fun k => Jf.l1.eq_2 l (tab (sm l) l.length) (i : Int) k) (ifn (by omega) (Ev.pure _))⟩
  | d + 1, i, h => by
    obtain ⟨c, ih⟩ := cl1_any l hl d (i + 1) (by omega)
    obtain ⟨b, h2⟩ := cl2_any l hl i (by omega) c ih i 0 (by omega)
    exact ⟨b, Ev.succ (fun k => Jf.l1.eq_2 l (tab (sm l) l.length) (i : Int) k) (ifs (by omega) h2)⟩
theorem clash_any (l : List ByteArray) (hl : l.length ≤ 5000) (hm : ∀ s ∈ l, s.size ≤ 140737488355000) : ∃ b, Sha.Ev (fun k => Jf.f k l) b := by
  obtain ⟨b, h⟩ := cl1_any l hl l.length 0 (by omega)
  refine ⟨b, ?_⟩
  have := cl_zero l hl hm h l.length 0 (by omega)
  unfold Jf.f
  refine ifs (by omega) ?_
  rw [Int.toNat_natCast]
  refine ifs (by omega) ?_
  exact this
/-- Two messages, one signature that is right for both: it is excused. -/
theorem other_excused (c d s : ByteArray) (hn : c ≠ d) (hc : c.size ≤ 2000) (hd : d.size ≤ 2000) (hs : s.size ≤ 100000) (leaf : Int) (vs ps : List ByteArray) (e : Oct.Evt.parts5 s = (leaf, vs, ps, true)) (h : pbx c leaf vs ps = pbx d leaf vs ps) :
    Sha.Ev (fun k => Uq.f k (way c leaf vs ps ++ way d leaf vs ps) s) true := by
  obtain ⟨n, hn4, hv, hp, mv, mp, _⟩ := Oct.Evt.parts5_ok e
  obtain ⟨w1, w2⟩ := way_ok c hc leaf vs ps hv mv (by omega) mp
  obtain ⟨w3, w4⟩ := way_ok d hd leaf vs ps hv mv (by omega) mp
  unfold Uq.f
  rcases other_meet c d hn hc hd leaf vs ps hv mv mp h with ⟨h1, h2⟩ | h1
  · obtain ⟨q, hq, hne⟩ := digits_ne (tT_size _ _) (tT_size _ _) h1
    have h3 := h2 q hq
    unfold en at h3
    rw [rdo_get vs q (by omega)] at h3
    have hr := round_ev s hs leaf vs ps e hv mv q hq (comes_round (tT_size _ _) (tT_size _ _) hq hne h3)
    obtain ⟨b, hb⟩ := clash_any (way c leaf vs ps ++ way d leaf vs ps) (by rw [List.length_append]; omega) (fun x hx => by
      rcases List.mem_append.1 hx with hx | hx
      · exact w1 x hx
      · exact w3 x hx)
    refine Ev.bind hb ?_
    cases b with
    | true => exact ifs rfl (Ev.pure _)
    | false => exact ifn Bool.false_ne_true (Ev.bind hr (Ev.pure _))
  · exact Ev.bind (Meet.clash h1 w1 w3 (by omega) (by omega)) (ifs rfl (Ev.pure _))
end Go.Proofs.YtdodghifojkclaaGreatDoor.Sha
