/-
  Steps, chains, secrets: the program's and the document's are one; the document's example.
  Conditions: none.
-/
import Derived.Test.YtdodghifojkclaaGreatDoorWts1
import Derived.Test.YtdodghifojkclaaGreatDoorOctA
import Derived.Test.YtdodghifojkclaaGreatDoorPPx1
import Derived.Test.YtdodghifojkclaaGreatDoorPPx2
import Derived.Test.YtdodghifojkclaaGreatDoorPPx3
namespace Go.Proofs.YtdodghifojkclaaGreatDoor.Sha
open Go.RowKit Go.Proofs.YtdodghifojkclaaGreatDoor.PP Go.Proofs.YtdodghifojkclaaGreatDoorW.PrintWords Go.Proofs.YtdodghifojkclaaGreatDoorW.PrintLast Go.Proofs.YtdodghifojkclaaGreatDoorW.PrintMore
set_option linter.unusedSimpArgs false
set_option linter.unusedVariables false

def dg (s : ByteArray) : ByteArray := fin (bd (nb s) (PD s (8 * (s.size : Int))) Sha.start)
theorem dg_size (s : ByteArray) : (dg s).size = 32 := by
  unfold dg fin
  rw [strOfNums_size]
  rfl
def inT (t : Int) (l : List ByteArray) : ByteArray := ⟨([J2.u8 t] ++ cat l).toArray⟩
def tT (t : Int) (l : List ByteArray) : ByteArray := dg (inT t l)
theorem tT_size (t : Int) (l : List ByteArray) : (tT t l).size = 32 := dg_size _
theorem tagT (t : Int) (l : List ByteArray) (h : ∀ s ∈ l, s.size ≤ 2000) (hl : l.length ≤ 500) : Sha.Ev (fun k => J5.f k t l) (tT t l) := by
  unfold J5.f
  exact Ev.bind (input_small t l h hl) (Ev.bind (sum_ev _ (small_size t l h hl)) (Ev.pure _))
theorem rtagT (t : Int) (wt : -9223372036854775808 ≤ t ∧ t ≤ 9223372036854775807) (l : List ByteArray) (h : ∀ s ∈ l, s.size ≤ 2000) (hl : l.length ≤ 500) : Sha.Ev (fun k => Jq.f k t l) (tT t l) := by
  unfold Jq.f
  exact Ev.bind (rinput_small t wt l h hl) (Ev.bind (ref_ev _ (small_size t l h hl)) (Ev.pure _))
def one (q : Nat) : ByteArray := strOfNums [(q : Int)]
theorem one_size (q : Nat) : (one q).size = 1 := by unfold one; rw [strOfNums_size]; rfl
theorem one_ev (q : Nat) (h : q < 256) : Sha.Ev (fun k => Uk.f k (q : Int)) (one q, true) := by
  unfold Uk.f
  refine Ev.bind (v := (one q, true)) ⟨4, fun k hk => ?_⟩ (Ev.pure _)
  obtain ⟨j, rfl⟩ : ∃ j, k = j + 4 := ⟨k - 4, by omega⟩
  exact Oct.laid1 j (q : Int) (by omega) (by omega)
theorem rone_ev (q : Nat) (h : q < 256) : Sha.Ev (fun k => Jc.f k (q : Int) 1) (one q, true) := by
  refine ⟨6, fun k hk => ?_⟩
  obtain ⟨j, rfl⟩ : ∃ j, k = j + 6 := ⟨k - 6, by omega⟩
  show Jc.f (j + 6) (q : Int) 1 = _
  rw [Oct.ref_one j (q : Int) (by omega), if_neg (by omega)]
  rfl
/-- How a leaf is laid, if there is such a leaf. -/
def lf (a : Int) : ByteArray × Bool := if a < 0 ∨ a ≥ 65536 then (⟨#[]⟩, false) else (strOfNums [a / 256, a % 256], true)
theorem lf_yes (a : Int) (h0 : 0 ≤ a) (h1 : a < 65536) : lf a = (strOfNums [a / 256, a % 256], true) := by unfold lf; rw [if_neg (by omega)]
theorem lf_no (a : Int) (h : a < 0 ∨ a ≥ 65536) : lf a = (⟨#[]⟩, false) := by unfold lf; rw [if_pos h]
theorem leafs_ev (a : Int) : Sha.Ev (fun k => Uo.f k a) (lf a) := by
  unfold Uo.f
  refine Ev.bind (v := lf a) ?_ (Ev.pure _)
  unfold Uj.f
  refine Ev.bind (v := lf a) ⟨5, fun k hk => ?_⟩ (Ev.pure _)
  obtain ⟨j, rfl⟩ : ∃ j, k = j + 5 := ⟨k - 5, by omega⟩
  show Jr.f (j + 5) a 2 = _
  rw [Oct.short_eq j a]
  unfold lf
  split <;> rfl
/-! steps -/
def stp (q : Nat) (x : ByteArray) : ByteArray := tT 1 [one q, x]
theorem stp_size (q : Nat) (x : ByteArray) : (stp q x).size = 32 := tT_size _ _
def Chn (q : Nat) : Nat → ByteArray → ByteArray
  | 0, x => x
  | n + 1, x => Chn q n (stp q x)
theorem Chn_size (q : Nat) : ∀ (n : Nat) (x : ByteArray), x.size ≤ 300 → (Chn q n x).size ≤ 300
  | 0, x, h => h
  | n + 1, x, h => Chn_size q n (stp q x) (by rw [stp_size]; decide)
theorem Chn_add (q : Nat) : ∀ (n m : Nat) (x : ByteArray), Chn q m (Chn q n x) = Chn q (n + m) x
  | 0, m, x => by rw [Nat.zero_add]; rfl
  | n + 1, m, x => by
    rw [show n + 1 + m = (n + m) + 1 by omega]
    exact Chn_add q n m (stp q x)
theorem two_mem (q : Nat) (x : ByteArray) (hx : x.size ≤ 300) : ∀ s ∈ [one q, x], s.size ≤ 2000 := by
  intro s hs
  simp only [List.mem_cons, List.not_mem_nil, or_false] at hs
  have := one_size q
  rcases hs with rfl | rfl <;> omega
theorem stp_ev (q : Nat) (x : ByteArray) (hx : x.size ≤ 300) : Sha.Ev (fun k => J5.f k 1 [one q, x]) (stp q x) := tagT 1 _ (two_mem q x hx) (by simp)
theorem ch_l (q : Nat) (m : Nat) (hm : m ≤ 1000) : ∀ (d j : Nat) (x : ByteArray), j + d = m → x.size ≤ 300 → Sha.Ev (fun k => J9.l0 k x (one q) (m : Int) (j : Int)) (Chn q d x)
  | 0, j, x, h, hx => by
    refine Ev.succ (G := fun _ => some x) (fun k => ?_) (Ev.pure _)
    simp only [J9.l0]
    rw [if_neg (by omega)]
  | d + 1, j, x, h, hx => by
    refine Ev.succ (G := fun k => (J5.f k 1 [one q, x]).bind fun t => J9.l0 k t (one q) (m : Int) ((j + 1 : Nat) : Int)) (fun k => ?_) (Ev.bind (stp_ev q x hx) (ch_l q m hm d (j + 1) (stp q x) (by omega) (by rw [stp_size]; decide)))
    simp only [J9.l0, upI j (by omega)]
    rw [if_pos (by omega)]
def cnt (n : Int) : Nat := min n.toNat 1000
theorem cnt_eq (n : Int) : mn (mx n 0) 1000 = (cnt n : Int) := by
  unfold mn mx cnt
  split <;> split <;> omega
theorem cnt_nat (n : Nat) (h : n ≤ 1000) : cnt (n : Int) = n := by unfold cnt; omega
theorem chain_ev (a n : Int) (x : ByteArray) (hx : x.size ≤ 300) : Sha.Ev (fun k => J9.f k a x n) (Chn (a % 256).toNat (cnt n) x) := by
  have h0 : (((a % 256).toNat : Nat) : Int) = a % 256 := by omega
  unfold J9.f
  rw [i64_and255, cnt_eq, ← h0]
  refine Ev.bind (one_ev (a % 256).toNat (by omega)) ?_
  exact ch_l (a % 256).toNat (cnt n) (by unfold cnt; omega) (cnt n) 0 x (by omega) hx
theorem mod_ref (a : Int) (h0 : -9223372036854775808 ≤ a) (h1 : a ≤ 9223372036854775807) : Int.tmod (wrap64 (Int.tmod a 256 + 256)) 256 = a % 256 := by
  have e : Int.tmod a 256 = if a < 0 then -((-a) % 256) else a % 256 := by
    split
    · rw [show a = -(-a) by omega, Int.neg_tmod, Int.tmod_eq_emod_of_nonneg (by omega), Int.neg_neg]
    · exact Int.tmod_eq_emod_of_nonneg (by omega)
  rw [e]
  split
  · rw [w64 (by omega) (by omega), Int.tmod_eq_emod_of_nonneg (by omega)]
    omega
  · rw [w64 (by omega) (by omega), Int.tmod_eq_emod_of_nonneg (by omega)]
    omega
theorem rstp_ev (a : Int) (h0 : -9223372036854775808 ≤ a) (h1 : a ≤ 9223372036854775807) (x : ByteArray) (hx : x.size ≤ 300) : Sha.Ev (fun k => Uh.f k a x) (stp (a % 256).toNat x) := by
  have h2 : (((a % 256).toNat : Nat) : Int) = a % 256 := by omega
  unfold Uh.f
  rw [mod_ref a h0 h1, ← h2]
  exact Ev.bind (rone_ev (a % 256).toNat (by omega)) (Ev.bind (rtagT 1 (by omega) _ (two_mem _ x hx) (by simp)) (Ev.pure _))
/-! secrets -/
def sc (s : ByteArray) (a : Int) (q : Nat) : ByteArray := tT 2 [s, (lf a).1, one q]
theorem sc_size (s : ByteArray) (a : Int) (q : Nat) : (sc s a q).size = 32 := tT_size _ _
theorem lf_size (a : Int) : (lf a).1.size ≤ 2 := by
  unfold lf
  split
  · exact Nat.zero_le _
  · show (strOfNums [a / 256, a % 256]).size ≤ 2
    rw [strOfNums_size]
    exact Nat.le_refl _
theorem three_mem (s : ByteArray) (hs : s.size ≤ 300) (a : Int) (q : Nat) : ∀ x ∈ [s, (lf a).1, one q], x.size ≤ 2000 := by
  intro x hx
  have h1 := lf_size a
  have h2 := one_size q
  simp only [List.mem_cons, List.not_mem_nil, or_false] at hx
  rcases hx with rfl | rfl | rfl <;> omega
theorem secret_ev (s : ByteArray) (hs : s.size ≤ 300) (a b : Int) : Sha.Ev (fun k => J6.f k s a b) (if (0 ≤ a ∧ a ≤ 65535) ∧ 0 ≤ b ∧ b ≤ 66 then (sc s a b.toNat, true) else (⟨#[]⟩, false)) := by
  have no : ∀ u, Sha.Ev (fun k => J6.j0 k s b u true) ((⟨#[]⟩ : ByteArray), false) := fun u => Ev.succ (G := fun _ => some ((⟨#[]⟩ : ByteArray), false)) (fun k => by simp only [J6.j0]; rw [if_pos trivial]) (Ev.pure _)
  unfold J6.f
  refine Ev.bind (leafs_ev a) ?_
  by_cases ca : a < 0 ∨ a ≥ 65536
  · rw [lf_no a ca, if_neg (by omega)]
    exact ifn (by decide) (no _)
  · have hl := lf_yes a (by omega) (by omega)
    rw [hl]
    refine ifs rfl ?_
    by_cases c1 : b < 0
    · rw [if_neg (by omega)]
      exact ifs c1 (no _)
    · refine ifn c1 ?_
      by_cases c2 : b ≥ 67
      · rw [decide_eq_true c2, if_neg (by omega)]
        exact no _
      · rw [decide_eq_false c2, if_pos (by omega)]
        obtain ⟨q, rfl⟩ : ∃ q : Nat, b = (q : Int) := ⟨b.toNat, by omega⟩
        have h3 := tagT 2 _ (three_mem s hs a q) (by simp)
        rw [hl] at h3
        have e : sc s a ((q : Int)).toNat = tT 2 [s, strOfNums [a / 256, a % 256], one q] := by
          unfold sc
          rw [hl]
          rfl
        rw [e]
        refine Ev.succ (G := fun k => (Uk.f k (q : Int)).bind fun t => (J5.f k 2 [s, strOfNums [a / 256, a % 256], t.1]).bind fun u => some (u, true)) (fun k => ?_) (Ev.bind (one_ev q (by omega)) (Ev.bind h3 (Ev.pure _)))
        simp only [J6.j0]
        rw [if_neg (by decide)]
end Go.Proofs.YtdodghifojkclaaGreatDoor.Sha
