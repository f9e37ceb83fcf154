/-
  Two leaves that one path leads to one root are alike, or two unlike texts have one digest.
  Conditions: none.
-/
import Derived.Test.YtmnppogihmhdgaaDoorStMerkleBinds
import Derived.Test.YtmnppogihmhdgaaDoorMrk3
namespace Go.Proofs.YtmnppogihmhdgaaDoor.Sha
open Go.RowKit Go.Proofs.YtmnppogihmhdgaaDoor.PP Go.Proofs.YtmnppogihmhdgaaDoorW.PrintWords Go.Proofs.YtmnppogihmhdgaaDoorW.PrintLast Go.Proofs.YtmnppogihmhdgaaDoorW.PrintMore
set_option linter.unusedSimpArgs false
set_option linter.unusedVariables false

theorem binds_l (xs ys : List ByteArray) (hl : xs.length = ys.length) (h4 : xs.length ≤ 4) (hx : ∀ s ∈ xs, s.size ≤ 140737488355000) (hy : ∀ s ∈ ys, s.size ≤ 140737488355000) (q : Nat) (hq : q < xs.length) (hne : at_ xs q ≠ at_ ys q) (hd : dig (at_ xs q) = dig (at_ ys q)) :
    ∀ (d j : Nat), j + d = q → Sha.Ev (fun k => palaverlaw04_MerkleBinds.l0 k xs ys (j : Int)) true := by
  intro d
  induction d with
  | zero =>
    intro j hj
    obtain rfl : j = q := by omega
    have r1 := ref_ev (at_ xs j) (hx _ (at_in xs j hq))
    have r2 := ref_ev (at_ ys j) (hy _ (at_in ys j (by omega)))
    refine Ev.succ (G := fun k => (palaverref02_Sum.f k (at_ xs j)).bind fun t => (palaverref02_Sum.f k (at_ ys j)).bind fun u => (if t.toList = u.toList then ((palaverlaw04_awake.f k).bind fun z => some z) else (palaverlaw04_MerkleBinds.l0 k xs ys (wrap64 ((j : Int) + 1))))) (fun k => ?_) (Ev.bind r1 (Ev.bind r2 (ifs (congrArg ByteArray.toList hd) awake4_then)))
    simp only [palaverlaw04_MerkleBinds.l0]
    rw [if_pos (by omega), if_pos (by omega), if_pos (by omega), if_neg (show ¬ ((rdOf ByteArray.empty xs (j : Int)).toList = (rdOf ByteArray.empty ys (j : Int)).toList) from fun e => hne ((Oct.toList_eq _ _).1 e))]
    rfl
  | succ d ih =>
    intro j hj
    have hjl : j < xs.length := by omega
    have h2 := ih (j + 1) (by omega)
    by_cases c : at_ xs j = at_ ys j
    · refine Ev.succ (fun k => ?_) h2
      simp only [palaverlaw04_MerkleBinds.l0, upN j (by omega)]
      rw [if_pos (by omega), if_pos (by omega), if_pos (by omega), if_pos (show (rdOf ByteArray.empty xs (j : Int)).toList = (rdOf ByteArray.empty ys (j : Int)).toList from congrArg ByteArray.toList c)]
    · have r1 := ref_ev (at_ xs j) (hx _ (at_in xs j hjl))
      have r2 := ref_ev (at_ ys j) (hy _ (at_in ys j (by omega)))
      refine Ev.succ (G := fun k => (palaverref02_Sum.f k (at_ xs j)).bind fun t => (palaverref02_Sum.f k (at_ ys j)).bind fun u => (if t.toList = u.toList then ((palaverlaw04_awake.f k).bind fun z => some z) else (palaverlaw04_MerkleBinds.l0 k xs ys ((j + 1 : Nat) : Int)))) (fun k => ?_) (Ev.bind r1 (Ev.bind r2 ?_))
      · simp only [palaverlaw04_MerkleBinds.l0, upN j (by omega)]
        rw [if_pos (by omega), if_pos (by omega), if_pos (by omega), if_neg (show ¬ ((rdOf ByteArray.empty xs (j : Int)).toList = (rdOf ByteArray.empty ys (j : Int)).toList) from fun e => c ((Oct.toList_eq _ _).1 e))]
        rfl
      · split
        · exact awake4_then
        · exact h2
theorem fold_len (x : ByteArray) (i : Int) (l : List ByteArray) (h : (fold x i l).2 = true) : l.length ≤ 4 ∧ fold x i l = (Fo l i x, true) ∧ rfold x i l = (Fo l i x, Rd l i x, true) := by
  unfold fold at h ⊢
  unfold rfold
  by_cases c : l.length ≤ 4 ∧ 0 ≤ i ∧ i < 2 ^ l.length
  · rw [if_pos c, if_pos c]
    exact ⟨c.1, rfl, rfl⟩
  · rw [if_neg c] at h
    cases h
theorem fold_ok (x y : ByteArray) (i : Int) (l : List ByteArray) : (fold x i l).2 = (fold y i l).2 := by
  unfold fold
  split <;> rfl
theorem MerkleBinds : palaverlaw04_MerkleBinds.Stmt := by
  intro a0 a1 a2 l3 h0 h1 h2 h3
  obtain ⟨b, hb, hc⟩ := long_ev4 l3 (by omega)
  have yes : Sha.Ev (fun k => palaverlaw04_MerkleBinds.j0 k a0 a1 a2 l3 true) true := Ev.succ (G := fun k => (palaverlaw04_awake.f k).bind fun t => some t) (fun k => by simp only [palaverlaw04_MerkleBinds.j0]; rw [if_pos trivial]) awake4_then
  have yes1 : Sha.Ev (fun k => palaverlaw04_MerkleBinds.j1 k a0 a1 a2 l3 true) true := Ev.succ (G := fun k => (palaverlaw04_awake.f k).bind fun t => some t) (fun k => by simp only [palaverlaw04_MerkleBinds.j1]; rw [if_pos trivial]) awake4_then
  refine Ev.get (F := fun k => palaverlaw04_MerkleBinds.f k a0 a1 a2 l3) ?_
  unfold palaverlaw04_MerkleBinds.f
  refine Ev.bind hb ?_
  cases b with
  | true => exact ifs rfl yes
  | false =>
    refine ifn (by decide) ?_
    by_cases c : (a0.size : Int) > 300
    · exact ifs c yes
    · refine ifn c ?_
      by_cases c2 : (a1.size : Int) > 300
      · rw [decide_eq_true c2]
        exact yes
      · rw [decide_eq_false c2]
        have hs : l3.length ≤ 4 → ∀ s ∈ l3, s.size ≤ 300 := fun h => hc rfl (by omega)
        have f0 := fold_ev a0 (by omega) a2 l3 hs
        have f1 := fold_ev a1 (by omega) a2 l3 hs
        have g0 := rfold_ev a0 (by omega) a2 l3 hs
        have g1 := rfold_ev a1 (by omega) a2 l3 hs
        have ho := fold_ok a0 a1 a2 l3
        refine Ev.succ (G := fun k => (merkle_Fold.f k a0 a2 l3).bind fun u => (merkle_Fold.f k a1 a2 l3).bind fun v => (if (u.2 != v.2) = true then (some false) else (if u.2 = true then (if u.1.toList = v.1.toList then (palaverlaw04_MerkleBinds.j1 k a0 a1 a2 l3 (a0.toList == a1.toList)) else (palaverlaw04_MerkleBinds.j1 k a0 a1 a2 l3 true)) else (palaverlaw04_MerkleBinds.j1 k a0 a1 a2 l3 true)))) (fun k => by simp only [palaverlaw04_MerkleBinds.j0]; rw [if_neg (by decide)]) (Ev.bind f0 (Ev.bind f1 ?_))
        refine ifn (by rw [ho]; simp) ?_
        by_cases c3 : (fold a0 a2 l3).2 = true
        · refine ifs c3 ?_
          obtain ⟨h4, e0, e1⟩ := fold_len a0 a2 l3 c3
          obtain ⟨_, e2, e3⟩ := fold_len a1 a2 l3 (ho ▸ c3)
          rw [e0, e2]
          rw [e1] at g0
          rw [e3] at g1
          by_cases c4 : Fo l3 a2 a0 = Fo l3 a2 a1
          · refine ifs (congrArg ByteArray.toList c4) ?_
            by_cases c5 : a0 = a1
            · rw [show (a0.toList == a1.toList) = true by rw [c5]; simp]
              exact yes1
            · have e5 : (a0.toList == a1.toList) = false := by
                rw [beq_eq_false_iff_ne]
                exact fun e => c5 ((Oct.toList_eq _ _).1 e)
              rw [e5]
              obtain ⟨q, hq, hn, hd⟩ := part l3 a2 a0 a1 (hs h4) (by omega) (by omega) c5 c4
              refine Ev.succ (G := fun k => (palaverref04_Fold.f k a0 a2 l3).bind fun u => (palaverref04_Fold.f k a1 a2 l3).bind fun v => palaverlaw04_MerkleBinds.l0 k u.2.1 v.2.1 0) (fun k => by simp only [palaverlaw04_MerkleBinds.j1]; rw [if_neg (by decide)]) (Ev.bind g0 (Ev.bind g1 ?_))
              exact binds_l (Rd l3 a2 a0) (Rd l3 a2 a1) (by rw [Rd_len, Rd_len]) (by rw [Rd_len]; exact h4) (Rd_size l3 a2 a0 (hs h4) (by omega)) (Rd_size l3 a2 a1 (hs h4) (by omega)) q (by rw [Rd_len]; exact hq) hn hd q 0 (by omega)
          · exact ifn (fun e => c4 ((Oct.toList_eq _ _).1 e)) yes1
        · exact ifn c3 yes1
end Go.Proofs.YtmnppogihmhdgaaDoor.Sha
namespace Go.Proofs.YtmnppogihmhdgaaDoor.Pure
open Go.Proofs.YtmnppogihmhdgaaDoor.PP
theorem MerkleBinds : palaverlaw04_MerkleBinds.Stmt := Sha.MerkleBinds
end Go.Proofs.YtmnppogihmhdgaaDoor.Pure
