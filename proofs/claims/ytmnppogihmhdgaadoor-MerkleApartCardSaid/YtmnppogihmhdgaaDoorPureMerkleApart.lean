/-
  Leaves of which one is another one have another root, or two unlike texts have one digest.
  Conditions: none.
-/
import Derived.Test.YtmnppogihmhdgaaDoorStMerkleApart
import Derived.Test.YtmnppogihmhdgaaDoorMrk4
namespace Go.Proofs.YtmnppogihmhdgaaDoor.Sha
open Go.RowKit Go.Proofs.YtmnppogihmhdgaaDoor.PP Go.Proofs.YtmnppogihmhdgaaDoorW.PrintWords Go.Proofs.YtmnppogihmhdgaaDoorW.PrintLast Go.Proofs.YtmnppogihmhdgaaDoorW.PrintMore
set_option linter.unusedSimpArgs false
set_option linter.unusedVariables false

theorem apart_l (xs ys : List ByteArray) (hl : xs.length = ys.length) (h4 : xs.length ≤ 4) (hx : ∀ s ∈ xs, s.size ≤ 140737488355000) (hy : ∀ s ∈ ys, s.size ≤ 140737488355000) (q : Nat) (hq : q < xs.length) (hne : at_ xs q ≠ at_ ys q) (hd : dig (at_ xs q) = dig (at_ ys q)) :
    ∀ (d j : Nat), j + d = q → Sha.Ev (fun k => palaverlaw04_MerkleApart.l0 k xs ys (j : Int)) true := by
  intro d
  induction d with
  | zero =>
    intro j hj
    obtain rfl : j = q := by omega
    have r1 := ref_ev (at_ xs j) (hx _ (at_in xs j hq))
    have r2 := ref_ev (at_ ys j) (hy _ (at_in ys j (by omega)))
    refine Ev.succ (G := fun k => (palaverref02_Sum.f k (at_ xs j)).bind fun t => (palaverref02_Sum.f k (at_ ys j)).bind fun u => (if t.toList = u.toList then ((palaverlaw04_awake.f k).bind fun z => some z) else (palaverlaw04_MerkleApart.l0 k xs ys (wrap64 ((j : Int) + 1))))) (fun k => ?_) (Ev.bind r1 (Ev.bind r2 (ifs (congrArg ByteArray.toList hd) awake4_then)))
    simp only [palaverlaw04_MerkleApart.l0]
    rw [if_pos (by omega), if_pos (by omega), if_pos (by omega), if_neg (show ¬ ((rdOf ByteArray.empty xs (j : Int)).toList = (rdOf ByteArray.empty ys (j : Int)).toList) from fun e => hne ((Oct.toList_eq _ _).1 e))]
    rfl
  | succ d ih =>
    intro j hj
    have hjl : j < xs.length := by omega
    have h2 := ih (j + 1) (by omega)
    by_cases c : at_ xs j = at_ ys j
    · refine Ev.succ (fun k => ?_) h2
      simp only [palaverlaw04_MerkleApart.l0, upN j (by omega)]
      rw [if_pos (by omega), if_pos (by omega), if_pos (by omega), if_pos (show (rdOf ByteArray.empty xs (j : Int)).toList = (rdOf ByteArray.empty ys (j : Int)).toList from congrArg ByteArray.toList c)]
    · have r1 := ref_ev (at_ xs j) (hx _ (at_in xs j hjl))
      have r2 := ref_ev (at_ ys j) (hy _ (at_in ys j (by omega)))
      refine Ev.succ (G := fun k => (palaverref02_Sum.f k (at_ xs j)).bind fun t => (palaverref02_Sum.f k (at_ ys j)).bind fun u => (if t.toList = u.toList then ((palaverlaw04_awake.f k).bind fun z => some z) else (palaverlaw04_MerkleApart.l0 k xs ys ((j + 1 : Nat) : Int)))) (fun k => ?_) (Ev.bind r1 (Ev.bind r2 ?_))
      · simp only [palaverlaw04_MerkleApart.l0, upN j (by omega)]
        rw [if_pos (by omega), if_pos (by omega), if_pos (by omega), if_neg (show ¬ ((rdOf ByteArray.empty xs (j : Int)).toList = (rdOf ByteArray.empty ys (j : Int)).toList) from fun e => c ((Oct.toList_eq _ _).1 e))]
        rfl
      · split
        · exact awake4_then
        · exact h2
theorem fold_len4 (x : ByteArray) (i : Int) (l : List ByteArray) (h : (fold x i l).2 = true) : l.length ≤ 4 ∧ fold x i l = (Fo l i x, true) ∧ rfold x i l = (Fo l i x, Rd l i x, true) := by
  unfold fold at h ⊢
  unfold rfold
  by_cases c : l.length ≤ 4 ∧ 0 ≤ i ∧ i < 2 ^ l.length
  · rw [if_pos c, if_pos c]
    exact ⟨c.1, rfl, rfl⟩
  · rw [if_neg c] at h
    cases h
theorem fold_in (x : ByteArray) (i : Int) (l : List ByteArray) (h : l.length ≤ 4 ∧ 0 ≤ i ∧ i < 2 ^ l.length) : rfold x i l = (Fo l i x, Rd l i x, true) := by
  unfold rfold
  rw [if_pos h]
theorem leads (l : List ByteArray) (h : Nat) (hl : l.length = 2 ^ h) (i : Nat) (hi : i < l.length) : Fo (Pt l i h 0) (i : Int) l[i] = Rt h l := by
  have := fold_path l h hl i (by omega) h 0 (by omega)
  rw [Nat.pow_zero, Nat.div_one, Bk_one l i hi] at this
  exact this
theorem MerkleApart : palaverlaw04_MerkleApart.Stmt := by
  intro l0 a1 a2 h0 h1 h2
  obtain ⟨b, hb, hc⟩ := long_ev4 l0 (by omega)
  have yes : Sha.Ev (fun k => palaverlaw04_MerkleApart.j0 k l0 a1 a2 true) true := Ev.succ (G := fun k => (palaverlaw04_awake.f k).bind fun t => some t) (fun k => by simp only [palaverlaw04_MerkleApart.j0]; rw [if_pos trivial]) awake4_then
  refine Ev.get (F := fun k => palaverlaw04_MerkleApart.f k l0 a1 a2) ?_
  unfold palaverlaw04_MerkleApart.f
  refine Ev.bind hb ?_
  cases b with
  | true => exact ifs rfl yes
  | false =>
    refine ifn (by decide) ?_
    by_cases c : (a2.size : Int) > 300
    · exact ifs c yes
    · refine ifn c ?_
      rcases leaves_pow l0.length with ⟨h, hh, hl, hv, hm⟩ | ⟨hv, hm⟩
      · have hp := p2 h hh
        have hs : ∀ s ∈ l0, s.size ≤ 300 := hc rfl (by omega)
        rw [hm]
        simp only [Option.bind_some]
        obtain ⟨⟨i, hi, e⟩, hz⟩ := pick a1 l0.length (by omega) (by omega)
        have hx : a2.size ≤ 300 := by omega
        have hs2 : ∀ s ∈ l0.set i a2, s.size ≤ 300 := by
          intro s z
          rcases List.mem_or_eq_of_mem_set z with z | rfl
          · exact hs s z
          · exact hx
        have hl2 : (l0.set i a2).length = 2 ^ h := by rw [List.length_set]; exact hl
        have r1 := Root_yes l0 h hh hl hs hv
        have r2 := Root_yes (l0.set i a2) h hh hl2 hs2 (by rw [List.length_set]; exact hv)
        have ai := at_get l0 i hi
        have yes1 : ∀ u v : ByteArray, ((u.toList == v.toList) == (a2.toList == l0[i].toList)) = true → Sha.Ev (fun k => palaverlaw04_MerkleApart.j1 k l0 a2 (i : Int) u v true) true := by
          intro u v huv
          refine Ev.succ (G := fun k => (palaverlaw04_awake.f k).bind fun t => some t) (fun k => ?_) awake4_then
          simp only [palaverlaw04_MerkleApart.j1, ai]
          rw [if_pos trivial, if_pos (by omega), if_pos (by omega), if_pos huv]
        refine Ev.succ (G := fun k => (merkle_Root.f k l0).bind fun u => (merkle_Root.f k (l0.set i a2)).bind fun v => (if a2.toList = l0[i].toList then (palaverlaw04_MerkleApart.j1 k l0 a2 (i : Int) u.1 v.1 true) else (palaverlaw04_MerkleApart.j1 k l0 a2 (i : Int) u.1 v.1 (u.1.toList != v.1.toList)))) (fun k => ?_) (Ev.bind r1 (Ev.bind r2 ?_))
        · simp only [palaverlaw04_MerkleApart.j0, e, Option.bind_some, List.nil_append, Int.toNat_natCast, ai]
          rw [show (!true) = false from rfl, if_neg (by decide), if_neg hz, if_pos (by simp; omega), if_pos (by omega), if_pos (by omega)]
          simp only [if_pos (show (i : Int) < (l0.length : Int) by omega)]
        · by_cases c2 : a2 = l0[i]
          · have e2 : l0.set i a2 = l0 := by rw [c2, List.set_getElem_self]
            rw [e2]
            refine ifs (congrArg ByteArray.toList c2) (yes1 _ _ ?_)
            rw [c2]
            simp
          · refine ifn (fun z => c2 ((Oct.toList_eq _ _).1 z)) ?_
            have c2b : (a2.toList == l0[i].toList) = false := by
              rw [beq_eq_false_iff_ne]
              exact fun z => c2 ((Oct.toList_eq _ _).1 z)
            by_cases c3 : Rt h l0 = Rt h (l0.set i a2)
            · have c3b : ((Rt h l0).toList != (Rt h (l0.set i a2)).toList) = false := by rw [c3]; simp
              simp only [c3b]
              have hpl := Pt_len l0 i h 0
              have hi2 : i < 2 ^ h := by omega
              have hg : (i : Int) < 2 ^ (Pt l0 i h 0).length := by
                rw [hpl]
                exact_mod_cast hi2
              have hm4 : ∀ s ∈ Pt l0 i h 0, s.size ≤ 300 := Pt_mem l0 h hl hs i hi2 h 0 (by omega)
              have hsi : l0[i].size ≤ 300 := hs _ (List.getElem_mem hi)
              have g0 := rfold_ev l0[i] hsi (i : Int) (Pt l0 i h 0) (fun _ => hm4)
              have g1 := rfold_ev a2 hx (i : Int) (Pt l0 i h 0) (fun _ => hm4)
              rw [fold_in _ _ _ ⟨by omega, by omega, hg⟩] at g0 g1
              have f0 := leads l0 h hl i hi
              have f1 := leads (l0.set i a2) h hl2 i (by rw [List.length_set]; exact hi)
              rw [Pt_set, List.getElem_set_self] at f1
              obtain ⟨q, hq, hn, hd⟩ := part (Pt l0 i h 0) (i : Int) l0[i] a2 hm4 hsi hx (fun z => c2 z.symm) (by rw [f0, f1]; exact c3)
              refine Ev.succ (G := fun k => (palaverref04_Path.f k l0 (i : Int)).bind fun t => (palaverref04_Fold.f k l0[i] (i : Int) t).bind fun u => (palaverref04_Fold.f k a2 (i : Int) t).bind fun v => palaverlaw04_MerkleApart.l0 k u.2.1 v.2.1 0) (fun k => ?_) (Ev.bind (rpath_ev l0 h hh hl hs i hi2) (Ev.bind g0 (Ev.bind g1 ?_)))
              · simp only [palaverlaw04_MerkleApart.j1, ai]
                rw [if_neg (by decide)]
                simp only [if_pos (show (0 : Int) ≤ (i : Int) by omega), if_pos (show (i : Int) < (l0.length : Int) by omega)]
              · exact apart_l (Rd (Pt l0 i h 0) (i : Int) l0[i]) (Rd (Pt l0 i h 0) (i : Int) a2) (by rw [Rd_len, Rd_len]) (by rw [Rd_len]; omega) (Rd_size _ _ _ hm4 hsi) (Rd_size _ _ _ hm4 hx) q (by rw [Rd_len]; exact hq) hn hd q 0 (by omega)
            · have c3b : ((Rt h l0).toList == (Rt h (l0.set i a2)).toList) = false := by
                rw [beq_eq_false_iff_ne]
                exact fun z => c3 ((Oct.toList_eq _ _).1 z)
              have c3c : ((Rt h l0).toList != (Rt h (l0.set i a2)).toList) = true := by
                rw [bne, c3b]
                rfl
              simp only [c3c]
              exact yes1 _ _ (by rw [c3b, c2b]; rfl)
      · rw [hm]
        simp only [Option.bind_some]
        exact yes
end Go.Proofs.YtmnppogihmhdgaaDoor.Sha
namespace Go.Proofs.YtmnppogihmhdgaaDoor.Pure
open Go.Proofs.YtmnppogihmhdgaaDoor.PP
theorem MerkleApart : palaverlaw04_MerkleApart.Stmt := Sha.MerkleApart
end Go.Proofs.YtmnppogihmhdgaaDoor.Pure
