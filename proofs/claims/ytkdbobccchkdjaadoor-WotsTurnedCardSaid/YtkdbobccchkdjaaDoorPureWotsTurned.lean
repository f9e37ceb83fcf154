/-
  A signature of which one value is another one leads to another public, or two unlike texts have one digest.
  Conditions: none.
-/
import Derived.Test.YtkdbobccchkdjaaDoorStWotsTurned
import Derived.Test.YtkdbobccchkdjaaDoorWts4
import Derived.Test.YtkdbobccchkdjaaDoorPPx8
namespace Go.Proofs.YtkdbobccchkdjaaDoor.Sha
open Go.RowKit Go.Proofs.YtkdbobccchkdjaaDoor.PP Go.Proofs.YtkdbobccchkdjaaDoorW.PrintWords Go.Proofs.YtkdbobccchkdjaaDoorW.PrintLast Go.Proofs.YtkdbobccchkdjaaDoorW.PrintMore
set_option linter.unusedSimpArgs false
set_option linter.unusedVariables false

/-! two texts of one digest are found -/
def sm (l : List ByteArray) (q : Nat) : ByteArray := dg (rdOf ByteArray.empty l (q : Int))
theorem cl_two (l : List ByteArray) (hl : l.length ≤ 5000) (p q : Nat) (hp : p < l.length) (hq : q < p) (hn : l[p] ≠ l[q]'(by omega)) (hd : dg l[p] = dg (l[q]'(by omega))) (i : Nat) (hi : i ≤ p) (hend : i ≠ p → Sha.Ev (fun k => palaverlaw03_clash.l1 k l (tab (sm l) l.length) ((i + 1 : Nat) : Int)) true) :
    ∀ (d j : Nat), j + d = i → (i = p → j ≤ q) → Sha.Ev (fun k => palaverlaw03_clash.l2 k l (tab (sm l) l.length) (i : Int) (j : Int)) true
  | 0, j, h, hj => by
    have hip : i ≠ p := fun e => by have := hj e; omega
    refine Ev.succ (fun k => ?_) (hend hip)
    simp only [palaverlaw03_clash.l2, upI i (by omega)]
    rw [if_neg (by omega)]
  | d + 1, j, h, hj => by
    have hil : i < l.length := by omega
    have hjl : j < l.length := by omega
    have hlen := tab_len (sm l) l.length
    have t1 := tab_at (sm l) l.length i hil
    have t2 := tab_at (sm l) l.length j hjl
    have r1 := rdo_get l i hil
    have r2 := rdo_get l j hjl
    have i0 : (j : Int) < (i : Int) := by omega
    have i1 : (0 : Int) ≤ (i : Int) := by omega
    have i2 : (i : Int) < ((tab (sm l) l.length).length : Int) := by omega
    have i3 : (0 : Int) ≤ (j : Int) := by omega
    have i4 : (j : Int) < ((tab (sm l) l.length).length : Int) := by omega
    have i5 : (i : Int) < (l.length : Int) := by omega
    have i6 : (j : Int) < (l.length : Int) := by omega
    by_cases c : dg l[i] = dg l[j]
    · by_cases c2 : l[i] = l[j]
      · have ih := cl_two l hl p q hp hq hn hd i hi hend d (j + 1) (by omega) (fun e => by
          have := hj e
          by_cases e2 : j = q
          · exfalso
            subst e2 e
            exact hn c2
          · omega)
        refine Ev.succ (fun k => ?_) ih
        simp only [palaverlaw03_clash.l2, upI j (by omega), t1, t2, if_pos i0, if_pos i1, if_pos i2, if_pos i3, if_pos i4, if_pos i5, if_pos i6]
        unfold sm
        rw [r1, r2, if_pos (congrArg ByteArray.toList c), if_pos (congrArg ByteArray.toList c2)]
      · refine Ev.succ (G := fun _ => some true) (fun k => ?_) (Ev.pure _)
        simp only [palaverlaw03_clash.l2, upI j (by omega), t1, t2, if_pos i0, if_pos i1, if_pos i2, if_pos i3, if_pos i4, if_pos i5, if_pos i6]
        unfold sm
        rw [r1, r2, if_pos (congrArg ByteArray.toList c), if_neg (fun e => c2 ((Oct.toList_eq _ _).1 e))]
    · have ih := cl_two l hl p q hp hq hn hd i hi hend d (j + 1) (by omega) (fun e => by
        have := hj e
        by_cases e2 : j = q
        · exfalso
          subst e2 e
          exact c hd
        · omega)
      refine Ev.succ (fun k => ?_) ih
      simp only [palaverlaw03_clash.l2, upI j (by omega), t1, t2, if_pos i0, if_pos i1, if_pos i2, if_pos i3, if_pos i4]
      unfold sm
      rw [r1, r2, if_neg (fun e => c ((Oct.toList_eq _ _).1 e))]
theorem cl_one (l : List ByteArray) (hl : l.length ≤ 5000) (p q : Nat) (hp : p < l.length) (hq : q < p) (hn : l[p] ≠ l[q]'(by omega)) (hd : dg l[p] = dg (l[q]'(by omega))) : ∀ (d i : Nat), i + d = p → Sha.Ev (fun k => palaverlaw03_clash.l1 k l (tab (sm l) l.length) (i : Int)) true
  | 0, i, h => by
    have := cl_two l hl p q hp hq hn hd i (by omega) (fun e => by omega) i 0 (by omega) (fun _ => by omega)
    refine Ev.succ (fun k => ?_) this
    simp only [palaverlaw03_clash.l1]
    rw [if_pos (by omega)]
    rfl
  | d + 1, i, h => by
    have ih := cl_one l hl p q hp hq hn hd d (i + 1) (by omega)
    have := cl_two l hl p q hp hq hn hd i (by omega) (fun _ => ih) i 0 (by omega) (fun e => by omega)
    refine Ev.succ (fun k => ?_) this
    simp only [palaverlaw03_clash.l1]
    rw [if_pos (by omega)]
    rfl
theorem cl_zero (l : List ByteArray) (hl : l.length ≤ 5000) (hm : ∀ s ∈ l, s.size ≤ 140737488355000) (hv : Sha.Ev (fun k => palaverlaw03_clash.l1 k l (tab (sm l) l.length) 0) true) : ∀ (d j : Nat), j + d = l.length → Sha.Ev (fun k => palaverlaw03_clash.l0 k l (tab (sm l) j ++ List.replicate d (⟨#[]⟩ : ByteArray)) (j : Int)) true
  | 0, j, h => by
    obtain rfl : j = l.length := by omega
    refine Ev.succ (fun k => ?_) hv
    simp only [palaverlaw03_clash.l0, List.replicate_zero, List.append_nil]
    rw [if_neg (by omega)]
  | d + 1, j, h => by
    have hj : j < l.length := by omega
    have ih := cl_zero l hl hm hv d (j + 1) (by omega)
    have r1 := ref_ev (rdOf ByteArray.empty l (j : Int)) (by rw [rdo_get l j hj]; exact hm _ (List.getElem_mem hj))
    have hlen := tab_len (sm l) j
    have e : (tab (sm l) j ++ List.replicate (d + 1) (⟨#[]⟩ : ByteArray)).set j (sm l j) = tab (sm l) (j + 1) ++ List.replicate d (⟨#[]⟩ : ByteArray) := by
      rw [List.set_append_right _ _ (by omega), hlen, Nat.sub_self, List.replicate_succ, List.set_cons_zero, tab_succ, List.append_assoc]
      rfl
    rw [← e] at ih
    have hlim : (j : Int) < ((tab (sm l) j ++ List.replicate (d + 1) (⟨#[]⟩ : ByteArray)).length : Int) := by
      rw [List.length_append, List.length_replicate]
      omega
    refine Ev.succ (G := fun k => (palaverref02_Sum.f k (rdOf ByteArray.empty l (j : Int))).bind fun t => (if (j : Int) < ((tab (sm l) j ++ List.replicate (d + 1) (⟨#[]⟩ : ByteArray)).length : Int) then (palaverlaw03_clash.l0 k l ((tab (sm l) j ++ List.replicate (d + 1) (⟨#[]⟩ : ByteArray)).set j t) ((j + 1 : Nat) : Int)) else none)) (fun k => ?_) (Ev.bind r1 (ifs hlim ih))
    simp only [palaverlaw03_clash.l0, upI j (by omega), Int.toNat_natCast]
    rw [if_pos (by omega), if_pos (by omega)]
theorem clash3 (l : List ByteArray) (hl : l.length ≤ 5000) (hm : ∀ s ∈ l, s.size ≤ 140737488355000) (u v : ByteArray) (hu : u ∈ l) (hv : v ∈ l) (hn : u ≠ v) (hd : dg u = dg v) : Sha.Ev (fun k => palaverlaw03_clash.f k l) true := by
  have key : Sha.Ev (fun k => palaverlaw03_clash.l1 k l (tab (sm l) l.length) 0) true := by
    obtain ⟨i, hi, rfl⟩ := List.getElem_of_mem hu
    obtain ⟨j, hj, rfl⟩ := List.getElem_of_mem hv
    rcases Nat.lt_trichotomy i j with h | h | h
    · exact cl_one l hl j i hj h (fun e => hn e.symm) hd.symm j 0 (by omega)
    · subst h
      exact absurd rfl hn
    · exact cl_one l hl i j hi h hn hd i 0 (by omega)
  have := cl_zero l hl hm key l.length 0 (by omega)
  unfold palaverlaw03_clash.f
  refine ifs (by omega) ?_
  rw [Int.toNat_natCast]
  refine ifs (by omega) ?_
  exact this
/-! ways that part and meet -/
theorem inT_inj (t : Int) (l m : List ByteArray) (hl : ∀ s ∈ l, s.size ≤ 2000) (hm : ∀ s ∈ m, s.size ≤ 2000) (h : inT t l = inT t m) : l = m := by
  unfold inT at h
  have h2 := congrArg ByteArray.toList h
  rw [toList_mk, toList_mk] at h2
  exact cat_inj l m hl hm (List.append_inj h2 rfl).2
theorem chn_meet (q : Nat) : ∀ (n : Nat) (x y : ByteArray), x.size ≤ 300 → y.size ≤ 300 → x ≠ y → Chn q n x = Chn q n y → ∃ u ∈ Rs q n x, ∃ v ∈ Rs q n y, u ≠ v ∧ dg u = dg v
  | 0, x, y, _, _, hn, h => absurd h hn
  | n + 1, x, y, hx, hy, hn, h => by
    by_cases c : stp q x = stp q y
    · refine ⟨inT 1 [one q, x], List.mem_cons_self .., inT 1 [one q, y], List.mem_cons_self .., fun e => ?_, c⟩
      have := inT_inj 1 _ _ (two_mem q x hx) (two_mem q y hy) e
      simp only [List.cons.injEq, and_true, true_and] at this
      exact hn this
    · obtain ⟨u, hu, v, hv, h1, h2⟩ := chn_meet q n (stp q x) (stp q y) (by rw [stp_size]; decide) (by rw [stp_size]; decide) c h
      exact ⟨u, List.mem_cons_of_mem _ hu, v, List.mem_cons_of_mem _ hv, h1, h2⟩
theorem Rs_size (q : Nat) : ∀ (n : Nat) (x : ByteArray), x.size ≤ 300 → ∀ s ∈ Rs q n x, s.size ≤ 140737488355000
  | 0, _, _ => by intro s hs; cases hs
  | n + 1, x, hx => by
    intro s hs
    rcases List.mem_cons.1 hs with rfl | hs
    · exact small_size 1 _ (two_mem q x hx) (by simp)
    · exact Rs_size q n (stp q x) (by rw [stp_size]; decide) s hs
theorem Ro_size (st : List Int) (l : List ByteArray) (hl : l.length = 67) (hm : ∀ s ∈ l, s.size ≤ 300) : ∀ (d j : Nat), j + d = 67 → ∀ s ∈ Ro st l d j, s.size ≤ 140737488355000
  | 0, _, _ => by intro s hs; cases hs
  | d + 1, j, h => by
    intro s hs
    rcases List.mem_append.1 hs with hs | hs
    · exact Rs_size j _ _ (by rw [rdo_get l j (by omega)]; exact hm _ (List.getElem_mem _)) s hs
    · exact Ro_size st l hl hm d (j + 1) (by omega) s hs
theorem Ro_mem (st : List Int) (l : List ByteArray) (q : Nat) (u : ByteArray) : ∀ (d j : Nat), j ≤ q → q < j + d → u ∈ Rs q (15 - dn st q) (rdOf ByteArray.empty l (q : Int)) → u ∈ Ro st l d j
  | 0, j, h1, h2, _ => by omega
  | d + 1, j, h1, h2, hu => by
    by_cases e : j = q
    · subst e
      exact List.mem_append.2 (.inl hu)
    · exact List.mem_append.2 (.inr (Ro_mem st l q u d (j + 1) (by omega) (by omega) hu))
theorem turned_road (d : ByteArray) (hd : d.size = 32) (l : List ByteArray) (hl : l.length = 67) (hm : ∀ s ∈ l, s.size ≤ 300) (q : Nat) (hq : q < 67) (x : ByteArray) (hx : x.size ≤ 300) (hn : l[q]'(by omega) ≠ x) (he : rc (Dg d) l = rc (Dg d) (l.set q x)) :
    ∃ u ∈ Ro (Dg d) l 67 0 ++ [inT 3 (tab (en (Dg d) l) 67)], ∃ v ∈ Ro (Dg d) (l.set q x) 67 0 ++ [inT 3 (tab (en (Dg d) (l.set q x)) 67)], u ≠ v ∧ dg u = dg v := by
  have hl2 : (l.set q x).length = 67 := by rw [List.length_set]; exact hl
  have hm2 : ∀ s ∈ l.set q x, s.size ≤ 300 := by
    intro s z
    rcases List.mem_or_eq_of_mem_set z with z | rfl
    · exact hm s z
    · exact hx
  by_cases c : tab (en (Dg d) l) 67 = tab (en (Dg d) (l.set q x)) 67
  · have e1 : en (Dg d) l q = en (Dg d) (l.set q x) q := by
      rw [← tab_at (en (Dg d) l) 67 q hq, ← tab_at (en (Dg d) (l.set q x)) 67 q hq, c]
    unfold en at e1
    rw [rdo_get l q (by omega), rdo_get (l.set q x) q (by omega), List.getElem_set_self] at e1
    obtain ⟨u, hu, v, hv, h1, h2⟩ := chn_meet q _ _ _ (hm _ (List.getElem_mem _)) hx hn e1
    refine ⟨u, List.mem_append.2 (.inl (Ro_mem _ l q u 67 0 (by omega) (by omega) ?_)), v, List.mem_append.2 (.inl (Ro_mem _ (l.set q x) q v 67 0 (by omega) (by omega) ?_)), h1, h2⟩
    · rw [rdo_get l q (by omega)]
      exact hu
    · rw [rdo_get (l.set q x) q (by omega), List.getElem_set_self]
      exact hv
  · refine ⟨_, List.mem_append.2 (.inr (List.mem_singleton.2 rfl)), _, List.mem_append.2 (.inr (List.mem_singleton.2 rfl)), fun e => c ?_, he⟩
    exact inT_inj 3 _ _ (tab_mem _ _ _ (fun p hp => by have := en_size (Dg d) l hm hl p hp; omega)) (tab_mem _ _ _ (fun p hp => by have := en_size (Dg d) (l.set q x) hm2 hl2 p hp; omega)) e
theorem road_ok (d : ByteArray) (l : List ByteArray) (hl : l.length = 67) (hm : ∀ s ∈ l, s.size ≤ 300) : (∀ s ∈ Ro (Dg d) l 67 0 ++ [inT 3 (tab (en (Dg d) l) 67)], s.size ≤ 140737488355000) ∧ (Ro (Dg d) l 67 0 ++ [inT 3 (tab (en (Dg d) l) 67)]).length ≤ 1006 := by
  constructor
  · intro s hs
    rcases List.mem_append.1 hs with hs | hs
    · exact Ro_size _ l hl hm 67 0 (by omega) s hs
    · rw [List.mem_singleton.1 hs]
      exact small_size 3 _ (tab_mem _ _ _ (fun p hp => by have := en_size (Dg d) l hm hl p hp; omega)) (by rw [tab_len]; decide)
  · have := Ro_len (Dg d) l 67 0
    rw [List.length_append]
    simp
    omega
theorem WotsTurned : palaverlaw03_WotsTurned.Stmt := by
  intro a0 a1 a2 a3 a4 h0 w1 h2 w3 h4
  have g1 := wf16 w1
  have g3 := wf8 w3
  have yes : Sha.Ev (fun k => palaverlaw03_WotsTurned.j0 k a0 a1 a2 a3 a4 true) true := Ev.succ (G := fun k => (palaverlaw03_awake.f k).bind fun t => some t) (fun k => by simp only [palaverlaw03_WotsTurned.j0]; rw [if_pos trivial]) awake3_then
  refine Ev.get (F := fun k => palaverlaw03_WotsTurned.f k a0 a1 a2 a3 a4) ?_
  unfold palaverlaw03_WotsTurned.f palaverlaw03_long.f
  simp only [Option.bind_some]
  refine ev_long a0 (fun hs => ?_) yes
  refine ev_long a4 (fun hx => ?_) yes
  refine Ev.bind awake3 ?_
  obtain ⟨f, hf, hz⟩ := fit_ev a2
  have ew : wrap64 a1 = a1 := w64 (by omega) (by omega)
  have s1 := sign_ev a0 hs a1 f
  rw [if_pos ⟨g1, hz⟩] at s1
  obtain ⟨q, hq, eq⟩ : ∃ q : Nat, q < 67 ∧ Int.tmod a3 67 = (q : Int) := by
    rw [Int.tmod_eq_emod_of_nonneg g3.1]
    exact ⟨(a3 % 67).toNat, by omega, by omega⟩
  have hl := sg_len a0 a1 f
  have hm := sg_mem a0 a1 f
  generalize sg a0 a1 f = l at *
  have hl2 : (l.set q a4).length = 67 := by rw [List.length_set]; exact hl
  have hm2 : ∀ s ∈ l.set q a4, s.size ≤ 300 := by
    intro s z
    rcases List.mem_or_eq_of_mem_set z with z | rfl
    · exact hm s z
    · exact hx
  have c1 := recover_ev f l (fun _ => hm)
  have c2 := recover_ev f (l.set q a4) (fun _ => hm2)
  rw [if_pos ⟨hz, hl⟩] at c1
  rw [if_pos ⟨hz, hl2⟩] at c2
  refine Ev.succ (G := fun k => (palaverlaw03_fit.f k a2).bind fun t => (wots_Sign.f k a0 a1 t).bind fun b => (if b.2 = true then (palaverlaw03_WotsTurned.j1 k a2 a3 a4 b.1 ((b.1.length : Int) != 67)) else (palaverlaw03_WotsTurned.j1 k a2 a3 a4 b.1 true))) (fun k => ?_) (Ev.bind hf (Ev.bind s1 (ifs rfl ?_)))
  · simp only [palaverlaw03_WotsTurned.j0, ew]
    rw [if_neg (by decide)]
  · show Sha.Ev (fun k => palaverlaw03_WotsTurned.j1 k a2 a3 a4 l ((l.length : Int) != 67)) true
    rw [show ((l.length : Int) != 67) = false by rw [hl]; rfl]
    have i1 : ([] : List ByteArray).length + l.length < 8796093022208 := by simp; omega
    have i2 : (0 : Int) ≤ (q : Int) := by omega
    have i3 : (q : Int) < (l.length : Int) := by omega
    refine Ev.succ (G := fun k => (palaverlaw03_fit.f k a2).bind fun t => (wots_Recover.f k t l).bind fun b => (palaverlaw03_fit.f k a2).bind fun u => (wots_Recover.f k u (l.set q a4)).bind fun c => (if a4.toList = (rdOf ByteArray.empty l (q : Int)).toList then (some (b.1.toList == c.1.toList)) else (if b.1.toList = c.1.toList then ((palaverlaw03_fit.f k a2).bind fun t2 => (palaverref03_Recover.f k t2 l).bind fun x => (palaverlaw03_fit.f k a2).bind fun u2 => (palaverref03_Recover.f k u2 (l.set q a4)).bind fun y => (if ([] : List ByteArray).length + x.2.length < 8796093022208 then (if ([] ++ x.2 : List ByteArray).length + y.2.length < 8796093022208 then ((palaverlaw03_clash.f k (([] ++ x.2) ++ y.2)).bind fun z => some z) else (none)) else (none))) else (some true)))) (fun k => ?_) (Ev.bind hf (Ev.bind c1 (Ev.bind hf (Ev.bind c2 ?_))))
    · simp only [palaverlaw03_WotsTurned.j1, eq, Option.bind_some, List.nil_append, Int.toNat_natCast]
      rw [if_neg (by decide)]
      simp only [if_pos i1, if_pos i2, if_pos i3]
    · rw [rdo_get l q (by omega)]
      by_cases c3 : a4 = l[q]'(by omega)
      · refine ifs (congrArg ByteArray.toList c3) ?_
        have e2 : l.set q a4 = l := by rw [c3, List.set_getElem_self]
        show Sha.Ev (fun k => some ((rc (Dg f) l).toList == (rc (Dg f) (l.set q a4)).toList)) true
        rw [e2, beq_self_eq_true]
        exact Ev.pure _
      · refine ifn (fun e => c3 ((Oct.toList_eq _ _).1 e)) ?_
        by_cases c4 : rc (Dg f) l = rc (Dg f) (l.set q a4)
        · refine ifs (congrArg ByteArray.toList c4) ?_
          have o1 := road_ok f l hl hm
          have o2 := road_ok f (l.set q a4) hl2 hm2
          obtain ⟨u, hu, v, hv, hn, hd⟩ := turned_road f hz l hl hm q hq a4 hx (fun e => c3 e.symm) c4
          have e1 := rrecover_ev f hz l hm hl
          have e2 := rrecover_ev f hz (l.set q a4) hm2 hl2
          generalize Ro (Dg f) l 67 0 ++ [inT 3 (tab (en (Dg f) l) 67)] = x at *
          generalize Ro (Dg f) (l.set q a4) 67 0 ++ [inT 3 (tab (en (Dg f) (l.set q a4)) 67)] = y at *
          have hc := clash3 (x ++ y) (by rw [List.length_append]; omega) (by
            intro s hs
            rcases List.mem_append.1 hs with hs | hs
            · exact o1.1 s hs
            · exact o2.1 s hs) u v (List.mem_append.2 (.inl hu)) (List.mem_append.2 (.inr hv)) hn hd
          refine Ev.bind hf (Ev.bind e1 (Ev.bind hf (Ev.bind e2 (ifs (by simp; omega) (ifs (by simp; omega) ?_)))))
          simp only [List.nil_append]
          exact Ev.bind hc (Ev.pure _)
        · exact ifn (fun e => c4 ((Oct.toList_eq _ _).1 e)) (Ev.pure _)
end Go.Proofs.YtkdbobccchkdjaaDoor.Sha
namespace Go.Proofs.YtkdbobccchkdjaaDoor.Pure
open Go.Proofs.YtkdbobccchkdjaaDoor.PP
theorem WotsTurned : palaverlaw03_WotsTurned.Stmt := Sha.WotsTurned
end Go.Proofs.YtkdbobccchkdjaaDoor.Pure
