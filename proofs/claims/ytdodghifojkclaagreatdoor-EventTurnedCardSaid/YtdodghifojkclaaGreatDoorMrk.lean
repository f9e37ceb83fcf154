/-
  Texts of this proof, one behind the other: Mrk1 Mrk2 Mrk3.
  Conditions: none.
-/
import Derived.Test.YtdodghifojkclaaGreatDoorSha5
import Derived.Test.YtdodghifojkclaaGreatDoorPPx1
import Derived.Test.YtdodghifojkclaaGreatDoorPPx2
import Derived.Test.YtdodghifojkclaaGreatDoorPPx3
/-
  Trees: the program's tag, fold, and the document's, are one; the document's example.
  Conditions: none.
-/
namespace Go.Proofs.YtdodghifojkclaaGreatDoor.Sha
open Go.RowKit Go.Proofs.YtdodghifojkclaaGreatDoor.PP Go.Proofs.YtdodghifojkclaaGreatDoorW.PrintWords Go.Proofs.YtdodghifojkclaaGreatDoorW.PrintLast Go.Proofs.YtdodghifojkclaaGreatDoorW.PrintMore
set_option linter.unusedSimpArgs false
set_option linter.unusedVariables false

def dig (s : ByteArray) : ByteArray := fin (bd (nb s) (PD s (8 * (s.size : Int))) Sha.start)
theorem dig_size (s : ByteArray) : (dig s).size = 32 := by
  unfold dig fin
  rw [strOfNums_size]
  rfl
def inp (l : List ByteArray) : ByteArray := ⟨([J2.u8 4] ++ cat l).toArray⟩
def tg (l : List ByteArray) : ByteArray := dig (inp l)
theorem tag_ev (l : List ByteArray) (h : ∀ s ∈ l, s.size ≤ 2000) (hl : l.length ≤ 500) : Sha.Ev (fun k => J5.f k 4 l) (tg l) := by
  unfold J5.f
  exact Ev.bind (input_small 4 l h hl) (Ev.bind (sum_ev _ (small_size 4 l h hl)) (Ev.pure _))
theorem rtag_ev (l : List ByteArray) (h : ∀ s ∈ l, s.size ≤ 2000) (hl : l.length ≤ 500) : Sha.Ev (fun k => Jq.f k 4 l) (tg l) := by
  unfold Jq.f
  exact Ev.bind (rinput_small 4 (by decide) l h hl) (Ev.bind (ref_ev _ (small_size 4 l h hl)) (Ev.pure _))
/-- The two that are joined. -/
def pr (i : Int) (x p : ByteArray) : List ByteArray := if i % 2 = 1 then [p, x] else [x, p]
theorem pr_mem (i : Int) (x p : ByteArray) (hx : x.size ≤ 2000) (hp : p.size ≤ 2000) : ∀ s ∈ pr i x p, s.size ≤ 2000 := by
  intro s hs
  unfold pr at hs
  split at hs <;> simp only [List.mem_cons, List.not_mem_nil, or_false] at hs <;> rcases hs with rfl | rfl <;> assumption
theorem pr_len (i : Int) (x p : ByteArray) : (pr i x p).length = 2 := by
  unfold pr
  split <;> rfl
def Fo : List ByteArray → Int → ByteArray → ByteArray
  | [], _, x => x
  | p :: ps, i, x => Fo ps (i / 2) (tg (pr i x p))
def Rd : List ByteArray → Int → ByteArray → List ByteArray
  | [], _, _ => []
  | p :: ps, i, x => inp (pr i x p) :: Rd ps (i / 2) (tg (pr i x p))
theorem and_one (i : Int) (h0 : 0 ≤ i) (h1 : i < 16) : Go.bits .and .i64 i 1 = i % 2 := by
  have : i = 0 ∨ i = 1 ∨ i = 2 ∨ i = 3 ∨ i = 4 ∨ i = 5 ∨ i = 6 ∨ i = 7 ∨ i = 8 ∨ i = 9 ∨ i = 10 ∨ i = 11 ∨ i = 12 ∨ i = 13 ∨ i = 14 ∨ i = 15 := by omega
  rcases this with rfl | rfl | rfl | rfl | rfl | rfl | rfl | rfl | rfl | rfl | rfl | rfl | rfl | rfl | rfl | rfl <;> decide
theorem at_get (l : List ByteArray) (j : Nat) (h : j < l.length) : rdOf ByteArray.empty l (j : Int) = l[j] := by
  unfold rdOf
  simp [List.getD, h]
theorem upN (i : Nat) (h : i ≤ 1000) : wrap64 ((i : Int) + 1) = ((i + 1 : Nat) : Int) := by rw [w64 (by omega) (by omega)]; omega
/-! the program's -/
theorem f0_ev (l : List ByteArray) (hl : l.length ≤ 4) (hs : ∀ s ∈ l, s.size ≤ 300) : ∀ (d j : Nat) (x : ByteArray) (i : Int), j + d = l.length → 0 ≤ i → i < 16 → x.size ≤ 300 → Sha.Ev (fun k => J0.l0 k x i l (l.length : Int) (j : Int)) (Fo (l.drop j) i x, true)
  | 0, j, x, i, h, h0, h1, hx => by
    rw [List.drop_of_length_le (by omega)]
    refine Ev.succ (G := fun _ => some (x, true)) (fun k => ?_) (Ev.pure _)
    simp only [J0.l0]
    rw [if_neg (by omega)]
  | d + 1, j, x, i, h, h0, h1, hx => by
    have hj : j < l.length := by omega
    have hp := hs _ (List.getElem_mem hj)
    rw [List.drop_eq_getElem_cons hj]
    show Sha.Ev _ (Fo (l.drop (j + 1)) (i / 2) (tg (pr i x l[j])), true)
    have hpm := pr_mem i x l[j] (by omega) (by omega)
    have ht := tag_ev (pr i x l[j]) hpm (by rw [pr_len]; decide)
    have ih := f0_ev l hl hs d (j + 1) (tg (pr i x l[j])) (i / 2) (by omega) (by omega) (by omega) (by unfold tg; rw [dig_size]; decide)
    refine Ev.succ (fun k => ?_) (Ev.bind ht ih) (G := fun k => (J5.f k 4 (pr i x l[j])).bind fun t => J0.l0 k t (i / 2) l (l.length : Int) ((j + 1 : Nat) : Int))
    simp only [J0.l0, Option.bind_some, and_one i h0 h1, at_get l j hj, upN j (by omega)]
    rw [if_pos (by omega), if_pos (by omega), if_pos (by omega), if_pos (by rw [List.length_replicate]), if_pos (by rw [List.length_replicate]; decide)]
    unfold pr
    by_cases c : i % 2 = 1
    · rw [if_pos c, if_pos c]
    · rw [if_neg c, if_neg c]
def fold (x : ByteArray) (i : Int) (l : List ByteArray) : ByteArray × Bool := if l.length ≤ 4 ∧ 0 ≤ i ∧ i < 2 ^ l.length then (Fo l i x, true) else (⟨#[]⟩, false)
theorem shl_one (n : Nat) (h : n ≤ 4) : shl .i64 1 (n : Int) = 2 ^ n := by
  have : n = 0 ∨ n = 1 ∨ n = 2 ∨ n = 3 ∨ n = 4 := by omega
  rcases this with rfl | rfl | rfl | rfl | rfl <;> decide
theorem pow4 (n : Nat) (h : n ≤ 4) : (2 : Int) ^ n ≤ 16 := by
  have : n = 0 ∨ n = 1 ∨ n = 2 ∨ n = 3 ∨ n = 4 := by omega
  rcases this with rfl | rfl | rfl | rfl | rfl <;> decide
theorem fold_ev (x : ByteArray) (hx : x.size ≤ 300) (i : Int) (l : List ByteArray) (hs : l.length ≤ 4 → ∀ s ∈ l, s.size ≤ 300) : Sha.Ev (fun k => J0.f k x i l) (fold x i l) := by
  have no : Sha.Ev (fun k => J0.j0 k x i l true) ((⟨#[]⟩ : ByteArray), false) := Ev.succ (G := fun _ => some ((⟨#[]⟩ : ByteArray), false)) (fun k => by simp only [J0.j0]; rw [if_pos trivial]) (Ev.pure _)
  unfold J0.f fold
  by_cases c : (l.length : Int) > 4
  · rw [if_neg (by omega)]
    exact ifs c no
  · refine ifn c ?_
    have hl : l.length ≤ 4 := by omega
    rw [shl_one _ hl]
    by_cases c2 : i < 0
    · rw [if_neg (by omega)]
      exact ifs c2 no
    · refine ifn c2 ?_
      have hp := pow4 l.length hl
      by_cases c3 : i ≥ 2 ^ l.length
      · rw [if_neg (by omega), decide_eq_true c3]
        exact no
      · rw [if_pos ⟨hl, by omega, by omega⟩, decide_eq_false c3]
        refine Ev.succ (fun k => ?_) (f0_ev l hl (hs hl) l.length 0 x i (by omega) (by omega) (by omega) hx)
        simp only [J0.j0]
        rw [if_neg (by decide)]
        rfl
/-! the document's -/
theorem r1_ev (l : List ByteArray) (hl : l.length ≤ 4) (hs : ∀ s ∈ l, s.size ≤ 300) : ∀ (d j : Nat) (x : ByteArray) (i : Int) (o : List ByteArray), j + d = l.length → 0 ≤ i → i < 16 → x.size ≤ 300 → o.length ≤ j → Sha.Ev (fun k => Jg.l1 k x i l o (j : Int)) (Fo (l.drop j) i x, o ++ Rd (l.drop j) i x, true)
  | 0, j, x, i, o, h, h0, h1, hx, ho => by
    rw [List.drop_of_length_le (by omega)]
    refine Ev.succ (G := fun _ => some (x, o, true)) (fun k => ?_) ?_
    · simp only [Jg.l1]
      rw [if_neg (by omega)]
    · show Sha.Ev _ (x, o ++ [], true)
      rw [List.append_nil]
      exact Ev.pure _
  | d + 1, j, x, i, o, h, h0, h1, hx, ho => by
    have hj : j < l.length := by omega
    have hp := hs _ (List.getElem_mem hj)
    rw [List.drop_eq_getElem_cons hj]
    show Sha.Ev _ (Fo (l.drop (j + 1)) (i / 2) (tg (pr i x l[j])), o ++ (inp (pr i x l[j]) :: Rd (l.drop (j + 1)) (i / 2) (tg (pr i x l[j]))), true)
    have hpm := pr_mem i x l[j] (by omega) (by omega)
    have hin := rinput_small 4 (by decide) (pr i x l[j]) hpm (by rw [pr_len]; decide)
    have ht := rtag_ev (pr i x l[j]) hpm (by rw [pr_len]; decide)
    have ih := r1_ev l hl hs d (j + 1) (tg (pr i x l[j])) (i / 2) (o ++ [inp (pr i x l[j])]) (by omega) (by omega) (by omega) (by unfold tg; rw [dig_size]; decide) (by rw [List.length_append]; simp; omega)
    rw [List.append_assoc] at ih
    have t1 : Int.tmod i 2 = i % 2 := Int.tmod_eq_emod_of_nonneg h0
    have t2 : Int.tdiv i 2 = i / 2 := Int.tdiv_eq_ediv_of_nonneg h0
    have w2 : wrap64 (i / 2) = i / 2 := w64 (by omega) (by omega)
    refine Ev.succ (fun k => ?_) (Ev.bind hin (ifs (show o.length < 8796093022208 by omega) (Ev.bind ht ih))) (G := fun k => (Jh.f k 4 (pr i x l[j])).bind fun t => if o.length < 8796093022208 then ((Jq.f k 4 (pr i x l[j])).bind fun u => Jg.l1 k u (i / 2) l (o ++ [t]) ((j + 1 : Nat) : Int)) else none)
    simp only [Jg.l1, at_get l j hj, upN j (by omega), t1, t2, w2]
    rw [if_pos (by omega), if_pos (by omega)]
    unfold pr
    by_cases c : i % 2 = 1
    · rw [if_pos c, if_pos c]
    · rw [if_neg c, if_neg c]
def rfold (x : ByteArray) (i : Int) (l : List ByteArray) : ByteArray × List ByteArray × Bool := if l.length ≤ 4 ∧ 0 ≤ i ∧ i < 2 ^ l.length then (Fo l i x, Rd l i x, true) else (⟨#[]⟩, [], false)
theorem q1_ev (x : ByteArray) (hx : x.size ≤ 300) (i : Int) (l : List ByteArray) (hs : l.length ≤ 4 → ∀ s ∈ l, s.size ≤ 300) (n : Int) (hn : l.length ≤ 4 → n = 2 ^ l.length) : Sha.Ev (fun k => Jg.j1 k x i l n) (rfold x i l) := by
  have no : Sha.Ev (fun k => Jg.j2 k x i l true) ((⟨#[]⟩ : ByteArray), ([] : List ByteArray), false) := Ev.succ (G := fun _ => some ((⟨#[]⟩ : ByteArray), ([] : List ByteArray), false)) (fun k => by simp only [Jg.j2]; rw [if_pos trivial]) (Ev.pure _)
  refine Ev.succ (G := fun k => if (l.length : Int) > 4 then (Jg.j2 k x i l true) else (if i < 0 then (Jg.j2 k x i l true) else (Jg.j2 k x i l (decide (i ≥ n))))) (fun k => by simp only [Jg.j1]) ?_
  unfold rfold
  by_cases c : (l.length : Int) > 4
  · rw [if_neg (by omega)]
    exact ifs c no
  · refine ifn c ?_
    have hl : l.length ≤ 4 := by omega
    rw [hn hl]
    by_cases c2 : i < 0
    · rw [if_neg (by omega)]
      exact ifs c2 no
    · refine ifn c2 ?_
      have hp := pow4 l.length hl
      by_cases c3 : i ≥ 2 ^ l.length
      · rw [if_neg (by omega), decide_eq_true c3]
        exact no
      · rw [if_pos ⟨hl, by omega, by omega⟩, decide_eq_false c3]
        refine Ev.succ (fun k => ?_) (r1_ev l hl (hs hl) l.length 0 x i [] (by omega) (by omega) (by omega) hx (by simp))
        simp only [Jg.j2]
        rw [if_neg (by decide)]
        rfl
theorem q0_ev (x : ByteArray) (hx : x.size ≤ 300) (i : Int) (l : List ByteArray) (hs : l.length ≤ 4 → ∀ s ∈ l, s.size ≤ 300) : ∀ (d j : Nat) (n : Int), j + d = 5 → j ≤ l.length → n = 2 ^ j → Sha.Ev (fun k => Jg.l0 k x i l n (j : Int)) (rfold x i l)
  | 0, j, n, h, hj, hn => by
    refine Ev.succ (fun k => ?_) (q1_ev x hx i l hs n (fun h4 => by omega))
    simp only [Jg.l0]
    by_cases c : (j : Int) < (l.length : Int)
    · rw [if_pos c, if_neg (by omega)]
    · rw [if_neg c]
  | d + 1, j, n, h, hj, hn => by
    by_cases c : j < l.length
    · have hp := pow4 j (by omega)
      have h1 : (1 : Int) ≤ 2 ^ j := by
        have : j = 0 ∨ j = 1 ∨ j = 2 ∨ j = 3 ∨ j = 4 := by omega
        rcases this with rfl | rfl | rfl | rfl | rfl <;> decide
      have e : wrap64 (2 * n) = 2 ^ (j + 1) := by rw [hn, w64 (by omega) (by omega), Int.pow_succ]; omega
      refine Ev.succ (fun k => ?_) (q0_ev x hx i l hs d (j + 1) (2 ^ (j + 1)) (by omega) (by omega) rfl)
      simp only [Jg.l0, e, upN j (by omega)]
      rw [if_pos (by omega), if_pos (by omega)]
    · refine Ev.succ (fun k => ?_) (q1_ev x hx i l hs n (fun h4 => by rw [hn, show j = l.length by omega]))
      simp only [Jg.l0]
      rw [if_neg (by omega)]
theorem rfold_ev (x : ByteArray) (hx : x.size ≤ 300) (i : Int) (l : List ByteArray) (hs : l.length ≤ 4 → ∀ s ∈ l, s.size ≤ 300) : Sha.Ev (fun k => Jg.f k x i l) (rfold x i l) :=
  q0_ev x hx i l hs 5 0 1 (by omega) (by omega) rfl
/-! long ones -/
end Go.Proofs.YtdodghifojkclaaGreatDoor.Sha

/-
  Trees: roots, paths; a leaf's path leads to the root; the document's example.
  Conditions: none.
-/
namespace Go.Proofs.YtdodghifojkclaaGreatDoor.Sha
open Go.RowKit Go.Proofs.YtdodghifojkclaaGreatDoor.PP Go.Proofs.YtdodghifojkclaaGreatDoorW.PrintWords Go.Proofs.YtdodghifojkclaaGreatDoorW.PrintLast Go.Proofs.YtdodghifojkclaaGreatDoorW.PrintMore
set_option linter.unusedSimpArgs false
set_option linter.unusedVariables false

theorem p2 (h : Nat) (hh : h ≤ 4) : 1 ≤ 2 ^ h ∧ 2 ^ h ≤ 16 := by
  have : h = 0 ∨ h = 1 ∨ h = 2 ∨ h = 3 ∨ h = 4 := by omega
  rcases this with rfl | rfl | rfl | rfl | rfl <;> decide
theorem leaves_eq (n : Nat) (h0 : 1 ≤ n) (h1 : n ≤ 16) : Ue.f (n : Int) = some (decide (n = 1 ∨ n = 2 ∨ n = 4 ∨ n = 8 ∨ n = 16)) := by
  have : n = 1 ∨ n = 2 ∨ n = 3 ∨ n = 4 ∨ n = 5 ∨ n = 6 ∨ n = 7 ∨ n = 8 ∨ n = 9 ∨ n = 10 ∨ n = 11 ∨ n = 12 ∨ n = 13 ∨ n = 14 ∨ n = 15 ∨ n = 16 := by omega
  rcases this with rfl | rfl | rfl | rfl | rfl | rfl | rfl | rfl | rfl | rfl | rfl | rfl | rfl | rfl | rfl | rfl <;> decide +kernel
/-! roots -/
def Rt : Nat → List ByteArray → ByteArray
  | 0, l => rdOf ByteArray.empty l 0
  | h + 1, l => tg [Rt h (l.take (2 ^ h)), Rt h (l.drop (2 ^ h))]
theorem Rt_one (h : Nat) (l : List ByteArray) : Rt (h + 1) l = tg [Rt h (l.take (2 ^ h)), Rt h (l.drop (2 ^ h))] := rfl
theorem Rt_size (h : Nat) (l : List ByteArray) (hl : l.length = 2 ^ h) (hs : ∀ s ∈ l, s.size ≤ 300) : (Rt h l).size ≤ 300 := by
  cases h with
  | zero =>
    have hj : 0 < l.length := by rw [hl]; decide
    have e : Rt 0 l = l[0] := at_get l 0 hj
    rw [e]
    exact hs _ (List.getElem_mem hj)
  | succ h =>
    rw [Rt_one]
    unfold tg
    rw [dig_size]
    decide
theorem root_ev : ∀ (h : Nat) (l : List ByteArray), h ≤ 4 → l.length = 2 ^ h → (∀ s ∈ l, s.size ≤ 300) → Sha.Ev (fun k => J4.f k l) (Rt h l)
  | 0, l, hh, hl, hs => by
    have hj : l.length = 1 := hl
    refine Ev.succ (G := fun _ => some (Rt 0 l)) (fun k => ?_) (Ev.pure _)
    simp only [J4.f]
    rw [if_pos (by omega), if_pos (by omega)]
    rfl
  | h + 1, l, hh, hl, hs => by
    have hp := p2 h (by omega)
    have hl2 : l.length = 2 * 2 ^ h := by rw [hl, Nat.pow_succ]; omega
    have e : (wrap64 ((l.length : Int) / 2) : Int) = ((2 ^ h : Nat) : Int) := by rw [w64 (by omega) (by omega)]; omega
    have h1 := root_ev h (l.take (2 ^ h)) (by omega) (by rw [List.length_take]; omega) (fun s z => hs s (List.mem_of_mem_take z))
    have h2 := root_ev h (l.drop (2 ^ h)) (by omega) (by rw [List.length_drop]; omega) (fun s z => hs s (List.mem_of_mem_drop z))
    have s1 := Rt_size h (l.take (2 ^ h)) (by rw [List.length_take]; omega) (fun s z => hs s (List.mem_of_mem_take z))
    have s2 := Rt_size h (l.drop (2 ^ h)) (by rw [List.length_drop]; omega) (fun s z => hs s (List.mem_of_mem_drop z))
    have ht := tag_ev [Rt h (l.take (2 ^ h)), Rt h (l.drop (2 ^ h))] (by
      intro s z
      simp only [List.mem_cons, List.not_mem_nil, or_false] at z
      rcases z with rfl | rfl <;> omega) (by simp)
    rw [Rt_one]
    refine Ev.succ (fun k => ?_) (Ev.bind h1 (Ev.bind h2 (Ev.bind ht (Ev.pure _)))) (G := fun k => (J4.f k (l.take (2 ^ h))).bind fun t => (J4.f k (l.drop (2 ^ h))).bind fun u => (J5.f k 4 [t, u]).bind fun z => some z)
    simp only [J4.f, e, Int.toNat_natCast]
    rw [if_neg (by omega), if_pos (by omega), if_pos (by omega)]
/-! paths -/
def Bk (l : List ByteArray) (t j : Nat) : List ByteArray := (l.take (j * 2 ^ t + 2 ^ t)).drop (j * 2 ^ t)
def sib (m : Nat) : Nat := if m % 2 = 0 then m + 1 else m - 1
theorem xor_one (m : Nat) (h : m < 16) : Go.bits .xor .i64 (m : Int) 1 = ((sib m : Nat) : Int) := by
  have : m = 0 ∨ m = 1 ∨ m = 2 ∨ m = 3 ∨ m = 4 ∨ m = 5 ∨ m = 6 ∨ m = 7 ∨ m = 8 ∨ m = 9 ∨ m = 10 ∨ m = 11 ∨ m = 12 ∨ m = 13 ∨ m = 14 ∨ m = 15 := by omega
  rcases this with rfl | rfl | rfl | rfl | rfl | rfl | rfl | rfl | rfl | rfl | rfl | rfl | rfl | rfl | rfl | rfl <;> decide +kernel
theorem Bk_len (l : List ByteArray) (t j : Nat) (h : j * 2 ^ t + 2 ^ t ≤ l.length) : (Bk l t j).length = 2 ^ t := by
  unfold Bk
  rw [List.length_drop, List.length_take]
  generalize j * 2 ^ t = a at *
  generalize 2 ^ t = b at *
  omega
theorem Bk_mem (l : List ByteArray) (t j : Nat) (hs : ∀ s ∈ l, s.size ≤ 300) : ∀ s ∈ Bk l t j, s.size ≤ 300 := fun s z => hs s (List.mem_of_mem_take (List.mem_of_mem_drop z))
theorem Bk_left (l : List ByteArray) (t j : Nat) : (Bk l (t + 1) j).take (2 ^ t) = Bk l t (2 * j) := by
  unfold Bk
  rw [List.take_drop, List.take_take, Nat.pow_succ]
  have e : j * (2 ^ t * 2) = 2 * j * 2 ^ t := by rw [Nat.mul_comm (2 ^ t) 2, ← Nat.mul_assoc, Nat.mul_comm j 2]
  rw [e]
  congr 2
  omega
theorem Bk_right (l : List ByteArray) (t j : Nat) : (Bk l (t + 1) j).drop (2 ^ t) = Bk l t (2 * j + 1) := by
  unfold Bk
  rw [List.drop_drop, Nat.pow_succ]
  have e : j * (2 ^ t * 2) = 2 * j * 2 ^ t := by rw [Nat.mul_comm (2 ^ t) 2, ← Nat.mul_assoc, Nat.mul_comm j 2]
  have e2 : (2 * j + 1) * 2 ^ t = 2 * j * 2 ^ t + 2 ^ t := by rw [Nat.add_mul, Nat.one_mul]
  rw [e, e2]
  congr 2 <;> omega
def Pt (l : List ByteArray) (i : Nat) : Nat → Nat → List ByteArray
  | 0, _ => []
  | d + 1, t => Rt t (Bk l t (sib (i / 2 ^ t))) :: Pt l i d (t + 1)
theorem Pt_one (l : List ByteArray) (i d t : Nat) : Pt l i (d + 1) t = Rt t (Bk l t (sib (i / 2 ^ t))) :: Pt l i d (t + 1) := rfl
theorem sib_lt (m d : Nat) (h : m < 2 ^ (d + 1)) : sib m < 2 ^ (d + 1) := by
  unfold sib
  rw [Nat.pow_succ] at *
  split <;> omega
theorem div_lt (i h t : Nat) (ht : t ≤ h) (hi : i < 2 ^ h) : i / 2 ^ t < 2 ^ (h - t) := by
  rw [Nat.div_lt_iff_lt_mul (Nat.pow_pos (by decide)), ← Nat.pow_add, Nat.sub_add_cancel ht]
  exact hi
theorem path_step (l : List ByteArray) (i : Nat) (o : List ByteArray) (n m a : Nat) (hn : 1 ≤ n) (h16 : l.length ≤ 16) (hlt : n < l.length) (hi : i ≤ 16) (hm : i / n = m) (hm16 : m < 16) (ha : sib m * n = a) (hab : a + n ≤ l.length) (ho : o.length ≤ 10) (k : Nat) :
    Jz.l0 (k + 1) l (i : Int) o (n : Int) = (J4.f k ((l.take (a + n)).drop a)).bind fun z => if o.length < 8796093022208 then Jz.l0 k l (i : Int) (o ++ [z]) ((n * 2 : Nat) : Int) else none := by
  have td : Int.tdiv (i : Int) (n : Int) = (m : Int) := by
    rw [Int.tdiv_eq_ediv_of_nonneg (Int.natCast_nonneg _), ← hm, Int.natCast_ediv]
  have m1 : ((sib m : Nat) : Int) * (n : Int) = (a : Int) := by rw [← ha, Int.natCast_mul]
  clear hm ha
  have w3 : wrap64 ((a : Int) + (n : Int)) = ((a + n : Nat) : Int) := by
    rw [w64 (by omega) (by omega), Int.natCast_add]
  have w4 : wrap64 ((n : Int) * 2) = ((n * 2 : Nat) : Int) := by
    clear w3
    rw [w64 (by omega) (by omega), Int.natCast_mul]
    rfl
  have w1 : wrap64 (m : Int) = (m : Int) := by
    clear w3 w4
    exact w64 (by omega) (by omega)
  have w2 : wrap64 (a : Int) = (a : Int) := by
    clear w1 w3 w4
    exact w64 (by omega) (by omega)
  have c1 : (n : Int) < (l.length : Int) := by
    clear w1 w2 w3 w4
    omega
  have c2 : ¬ ((n : Int) = 0) := by
    clear w1 w2 w3 w4
    omega
  have c3 : (0 : Int) ≤ (a : Int) := Int.natCast_nonneg a
  have c4 : (a : Int) ≤ ((a + n : Nat) : Int) := by
    clear w1 w2 w3 w4
    omega
  have c5 : ((a + n : Nat) : Int) ≤ (l.length : Int) := by
    clear w1 w2 w3 w4
    omega
  have x1 := xor_one m hm16
  rw [Jz.l0, if_pos c1, if_neg c2, td, w1, x1, m1, w2, w3, w4, if_pos c3, if_pos c4, if_pos c5, Int.toNat_natCast, Int.toNat_natCast]
theorem path_l (l : List ByteArray) (h : Nat) (hh : h ≤ 4) (hl : l.length = 2 ^ h) (hs : ∀ s ∈ l, s.size ≤ 300) (i : Nat) (hi : i < 2 ^ h) : ∀ (d t : Nat) (o : List ByteArray), t + d = h → o.length ≤ t → Sha.Ev (fun k => Jz.l0 k l (i : Int) o ((2 ^ t : Nat) : Int)) (o ++ Pt l i d t, true)
  | 0, t, o, ht, ho => by
    have e : t = h := by omega
    subst e
    refine Ev.succ (G := fun _ => some (o, true)) (fun k => ?_) ?_
    · rw [Jz.l0, if_neg (by omega)]
    · show Sha.Ev _ (o ++ [], true)
      rw [List.append_nil]
      exact Ev.pure _
  | d + 1, t, o, ht, ho => by
    have hp := p2 t (by omega)
    have hph := p2 h hh
    have hlt : 2 ^ t < l.length := by rw [hl]; exact Nat.pow_lt_pow_right (by decide) (by omega)
    have hm := div_lt i h t (by omega) hi
    have hdl : 2 ^ (h - t) ≤ 16 := (p2 (h - t) (by omega)).2
    have hsb : sib (i / 2 ^ t) < 2 ^ (h - t) := by
      have e : h - t = (h - t - 1) + 1 := by omega
      rw [e] at hm ⊢
      exact sib_lt _ _ hm
    have hin : sib (i / 2 ^ t) * 2 ^ t + 2 ^ t ≤ l.length := by
      rw [hl]
      have : (sib (i / 2 ^ t) + 1) * 2 ^ t ≤ 2 ^ (h - t) * 2 ^ t := Nat.mul_le_mul_right _ hsb
      rw [← Nat.pow_add, Nat.sub_add_cancel (by omega), Nat.add_mul, Nat.one_mul] at this
      exact this
    have hr := root_ev t (Bk l t (sib (i / 2 ^ t))) (by omega) (Bk_len l t _ hin) (Bk_mem l t _ hs)
    have ih := path_l l h hh hl hs i hi d (t + 1) (o ++ [Rt t (Bk l t (sib (i / 2 ^ t)))]) (by omega) (by rw [List.length_append]; simp; omega)
    rw [List.append_assoc, Nat.pow_succ] at ih
    rw [Pt_one]
    exact Ev.succ (path_step l i o (2 ^ t) (i / 2 ^ t) _ hp.1 (by rw [hl]; exact hph.2) hlt (by omega) rfl (by omega) rfl hin (by omega)) (Ev.bind hr (ifs (show o.length < 8796093022208 by omega) ih))
theorem path_ev (l : List ByteArray) (h : Nat) (hh : h ≤ 4) (hl : l.length = 2 ^ h) (hs : ∀ s ∈ l, s.size ≤ 300) (i : Nat) (hi : i < 2 ^ h) (hv : Ue.f (l.length : Int) = some true) : Sha.Ev (fun k => Jz.f k l (i : Int)) (Pt l i h 0, true) := by
  have := path_l l h hh hl hs i hi h 0 [] (by omega) (by simp)
  unfold Jz.f
  rw [hv]
  simp only [Option.bind_some]
  refine ifs trivial (ifn (by omega) ?_)
  rw [decide_eq_false (by omega)]
  refine Ev.succ (fun k => ?_) this
  simp only [Jz.j0]
  rw [if_neg (by decide)]
  rfl
/-- A leaf's path leads to the root. -/
theorem fold_path (l : List ByteArray) (h : Nat) (hl : l.length = 2 ^ h) (i : Nat) (hi : i < 2 ^ h) : ∀ (d t : Nat), t + d = h → Fo (Pt l i d t) ((i / 2 ^ t : Nat) : Int) (Rt t (Bk l t (i / 2 ^ t))) = Rt h l
  | 0, t, ht => by
    have e : t = h := by omega
    subst e
    rw [Nat.div_eq_of_lt hi]
    show Rt t (Bk l t 0) = Rt t l
    unfold Bk
    rw [Nat.zero_mul, Nat.zero_add, List.drop_zero, List.take_of_length_le (by omega)]
  | d + 1, t, ht => by
    rw [Pt_one]
    show Fo (Pt l i d (t + 1)) (((i / 2 ^ t : Nat) : Int) / 2) (tg (pr ((i / 2 ^ t : Nat) : Int) (Rt t (Bk l t (i / 2 ^ t))) (Rt t (Bk l t (sib (i / 2 ^ t)))))) = _
    have ih := fold_path l h hl i hi d (t + 1) (by omega)
    have e1 : i / 2 ^ (t + 1) = i / 2 ^ t / 2 := by rw [Nat.pow_succ, Nat.div_div_eq_div_mul]
    have e2 : (((i / 2 ^ t : Nat) : Int) / 2) = ((i / 2 ^ (t + 1) : Nat) : Int) := by rw [e1]; omega
    have e3 : tg (pr ((i / 2 ^ t : Nat) : Int) (Rt t (Bk l t (i / 2 ^ t))) (Rt t (Bk l t (sib (i / 2 ^ t))))) = Rt (t + 1) (Bk l (t + 1) (i / 2 ^ (t + 1))) := by
      rw [Rt_one, Bk_left, Bk_right, e1]
      generalize i / 2 ^ t = m
      congr 1
      unfold pr sib
      by_cases c : m % 2 = 0
      · rw [if_neg (by omega), if_pos c, show 2 * (m / 2) = m by omega]
      · rw [if_pos (by omega), if_neg c, show 2 * (m / 2) = m - 1 by omega, show m - 1 + 1 = m by omega]
    rw [e2, e3]
    exact ih
theorem Pt_len (l : List ByteArray) (i : Nat) : ∀ (d t : Nat), (Pt l i d t).length = d
  | 0, _ => rfl
  | d + 1, t => by rw [Pt_one, List.length_cons, Pt_len l i d (t + 1)]
theorem Pt_mem (l : List ByteArray) (h : Nat) (hl : l.length = 2 ^ h) (hs : ∀ s ∈ l, s.size ≤ 300) (i : Nat) (hi : i < 2 ^ h) : ∀ (d t : Nat), t + d = h → ∀ s ∈ Pt l i d t, s.size ≤ 300
  | 0, _, _ => by intro s z; cases z
  | d + 1, t, ht => by
    intro s z
    rw [Pt_one] at z
    rcases List.mem_cons.1 z with rfl | z
    · have hm := div_lt i h t (by omega) hi
      have hsb : sib (i / 2 ^ t) < 2 ^ (h - t) := by
        have e : h - t = (h - t - 1) + 1 := by omega
        rw [e] at hm ⊢
        exact sib_lt _ _ hm
      have hin : sib (i / 2 ^ t) * 2 ^ t + 2 ^ t ≤ l.length := by
        rw [hl]
        have : (sib (i / 2 ^ t) + 1) * 2 ^ t ≤ 2 ^ (h - t) * 2 ^ t := Nat.mul_le_mul_right _ hsb
        rw [← Nat.pow_add, Nat.sub_add_cancel (by omega), Nat.add_mul, Nat.one_mul] at this
        exact this
      exact Rt_size t _ (Bk_len l t _ hin) (Bk_mem l t _ hs)
    · exact Pt_mem l h hl hs i hi d (t + 1) (by omega) s z
end Go.Proofs.YtdodghifojkclaaGreatDoor.Sha

/-
  Trees: two ways that part and meet again have two unlike texts of one digest; numbers of leaves.
  Conditions: none.
-/
namespace Go.Proofs.YtdodghifojkclaaGreatDoor.Sha
open Go.RowKit Go.Proofs.YtdodghifojkclaaGreatDoor.PP Go.Proofs.YtdodghifojkclaaGreatDoorW.PrintWords Go.Proofs.YtdodghifojkclaaGreatDoorW.PrintLast Go.Proofs.YtdodghifojkclaaGreatDoorW.PrintMore
set_option linter.unusedSimpArgs false
set_option linter.unusedVariables false

theorem inp_inj (l m : List ByteArray) (hl : ∀ s ∈ l, s.size ≤ 2000) (hm : ∀ s ∈ m, s.size ≤ 2000) (h : inp l = inp m) : l = m := by
  unfold inp at h
  have h2 := congrArg ByteArray.toList h
  rw [toList_mk, toList_mk] at h2
  exact cat_inj l m hl hm (List.append_inj h2 rfl).2
theorem pr_inj (i : Int) (x y p : ByteArray) (h : pr i x p = pr i y p) : x = y := by
  unfold pr at h
  split at h <;> simpa using h
theorem Rd_len : ∀ (ps : List ByteArray) (i : Int) (x : ByteArray), (Rd ps i x).length = ps.length
  | [], _, _ => rfl
  | p :: ps, i, x => by
    show (Rd ps (i / 2) (tg (pr i x p))).length + 1 = ps.length + 1
    rw [Rd_len ps]
theorem tg_size (l : List ByteArray) : (tg l).size ≤ 300 := by
  unfold tg
  rw [dig_size]
  decide
theorem Rd_size : ∀ (ps : List ByteArray) (i : Int) (x : ByteArray), (∀ s ∈ ps, s.size ≤ 300) → x.size ≤ 300 → ∀ s ∈ Rd ps i x, s.size ≤ 140737488355000
  | [], _, _, _, _ => by intro s z; cases z
  | p :: ps, i, x, hp, hx => by
    intro s z
    have hpp := hp p (by simp)
    rcases List.mem_cons.1 z with rfl | z
    · exact small_size 4 _ (pr_mem i x p (by omega) (by omega)) (by rw [pr_len]; decide)
    · exact Rd_size ps (i / 2) (tg (pr i x p)) (fun s hs => hp s (List.mem_cons_of_mem _ hs)) (tg_size _) s z
theorem at_cons (a : ByteArray) (l : List ByteArray) (j : Nat) : at_ (a :: l) (j + 1) = at_ l j := by
  unfold at_ rdOf
  rw [show ((j + 1 : Nat) : Int).toNat = j + 1 by omega, show ((j : Nat) : Int).toNat = j by omega]
  rfl
theorem part : ∀ (ps : List ByteArray) (i : Int) (x y : ByteArray), (∀ s ∈ ps, s.size ≤ 300) → x.size ≤ 300 → y.size ≤ 300 → x ≠ y → Fo ps i x = Fo ps i y → ∃ j, j < ps.length ∧ at_ (Rd ps i x) j ≠ at_ (Rd ps i y) j ∧ dig (at_ (Rd ps i x) j) = dig (at_ (Rd ps i y) j)
  | [], i, x, y, _, _, _, hn, h => absurd h hn
  | p :: ps, i, x, y, hp, hx, hy, hn, h => by
    have hpp := hp p (by simp)
    by_cases c : tg (pr i x p) = tg (pr i y p)
    · refine ⟨0, by simp, fun e => ?_, c⟩
      have e2 : inp (pr i x p) = inp (pr i y p) := e
      exact hn (pr_inj i x y p (inp_inj _ _ (pr_mem i x p (by omega) (by omega)) (pr_mem i y p (by omega) (by omega)) e2))
    · obtain ⟨j, h1, h2, h3⟩ := part ps (i / 2) (tg (pr i x p)) (tg (pr i y p)) (fun s hs => hp s (List.mem_cons_of_mem _ hs)) (tg_size _) (tg_size _) c h
      refine ⟨j + 1, by simpa using h1, ?_, ?_⟩
      · show at_ (inp (pr i x p) :: Rd ps (i / 2) (tg (pr i x p))) (j + 1) ≠ at_ (inp (pr i y p) :: Rd ps (i / 2) (tg (pr i y p))) (j + 1)
        rw [at_cons, at_cons]
        exact h2
      · show dig (at_ (inp (pr i x p) :: Rd ps (i / 2) (tg (pr i x p))) (j + 1)) = dig (at_ (inp (pr i y p) :: Rd ps (i / 2) (tg (pr i y p))) (j + 1))
        rw [at_cons, at_cons]
        exact h3
theorem Root_yes (l : List ByteArray) (h : Nat) (hh : h ≤ 4) (hl : l.length = 2 ^ h) (hs : ∀ s ∈ l, s.size ≤ 300) (hv : Ue.f (l.length : Int) = some true) : Sha.Ev (fun k => U3.f k l) (Rt h l, true) := by
  unfold U3.f
  rw [hv]
  simp only [Option.bind_some]
  exact ifs trivial (Ev.bind (root_ev h l hh hl hs) (Ev.pure _))
theorem Bk_one (l : List ByteArray) (i : Nat) (hi : i < l.length) : Rt 0 (Bk l 0 i) = l[i] := by
  unfold Bk
  show rdOf ByteArray.empty (List.drop (i * 1) (List.take (i * 1 + 1) l)) 0 = l[i]
  rw [Nat.mul_one, List.take_succ_eq_append_getElem hi, List.drop_append_of_le_length (by rw [List.length_take]; omega), List.drop_of_length_le (by rw [List.length_take]; omega)]
  rfl
end Go.Proofs.YtdodghifojkclaaGreatDoor.Sha
