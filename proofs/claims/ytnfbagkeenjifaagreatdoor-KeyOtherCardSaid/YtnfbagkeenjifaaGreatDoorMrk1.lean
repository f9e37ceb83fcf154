/-
  Trees: the program's tag, fold, and the document's, are one; the document's example.
  Conditions: none.
-/
import Derived.Test.YtnfbagkeenjifaaGreatDoorSha5
import Derived.Test.YtnfbagkeenjifaaGreatDoorPPx1
import Derived.Test.YtnfbagkeenjifaaGreatDoorPPx2
import Derived.Test.YtnfbagkeenjifaaGreatDoorPPx3
namespace Go.Proofs.YtnfbagkeenjifaaGreatDoor.Sha
open Go.RowKit Go.Proofs.YtnfbagkeenjifaaGreatDoor.PP Go.Proofs.YtnfbagkeenjifaaGreatDoorW.PrintWords Go.Proofs.YtnfbagkeenjifaaGreatDoorW.PrintLast Go.Proofs.YtnfbagkeenjifaaGreatDoorW.PrintMore
set_option linter.unusedSimpArgs false
set_option linter.unusedVariables false

def dig (s : ByteArray) : ByteArray := fin (bd (nb s) (PD s (8 * (s.size : Int))) Sha.start)
theorem dig_size (s : ByteArray) : (dig s).size = 32 := by
  unfold dig fin
  rw [strOfNums_size]
  rfl
def inp (l : List ByteArray) : ByteArray := ⟨([sha_Input.u8 4] ++ cat l).toArray⟩
def tg (l : List ByteArray) : ByteArray := dig (inp l)
theorem tag_ev (l : List ByteArray) (h : ∀ s ∈ l, s.size ≤ 2000) (hl : l.length ≤ 500) : Sha.Ev (fun k => sha_Tag.f k 4 l) (tg l) := by
  unfold sha_Tag.f
  exact Ev.bind (input_small 4 l h hl) (Ev.bind (sum_ev _ (small_size 4 l h hl)) (Ev.pure _))
theorem rtag_ev (l : List ByteArray) (h : ∀ s ∈ l, s.size ≤ 2000) (hl : l.length ≤ 500) : Sha.Ev (fun k => palaverref02_Tag.f k 4 l) (tg l) := by
  unfold palaverref02_Tag.f
  exact Ev.bind (rinput_small 4 (by decide) l h hl) (Ev.bind (ref_ev _ (small_size 4 l h hl)) (Ev.pure _))
/-- The two that are joined. -/
def pr (i : Int) (x p : ByteArray) : List ByteArray := if i % 2 = 1 then [p, x] else [x, p]
theorem pr_mem (i : Int) (x p : ByteArray) (hx : x.size ≤ 2000) (hp : p.size ≤ 2000) : ∀ s ∈ pr i x p, s.size ≤ 2000 := by
  intro s hs
  unfold pr at hs
  split at hs <;> simp only [List.mem_cons, List.not_mem_nil, or_false] at hs <;> rcases hs with rfl | rfl <;> assumption
theorem pr_len (i : Int) (x p : ByteArray) : (pr i x p).length = 2 := by
  unfold pr
  split <;> rfl
def Fo : List ByteArray → Int → ByteArray → ByteArray
  | [], _, x => x
  | p :: ps, i, x => Fo ps (i / 2) (tg (pr i x p))
def Rd : List ByteArray → Int → ByteArray → List ByteArray
  | [], _, _ => []
  | p :: ps, i, x => inp (pr i x p) :: Rd ps (i / 2) (tg (pr i x p))
theorem and_one (i : Int) (h0 : 0 ≤ i) (h1 : i < 16) : Go.bits .and .i64 i 1 = i % 2 := by
  have : i = 0 ∨ i = 1 ∨ i = 2 ∨ i = 3 ∨ i = 4 ∨ i = 5 ∨ i = 6 ∨ i = 7 ∨ i = 8 ∨ i = 9 ∨ i = 10 ∨ i = 11 ∨ i = 12 ∨ i = 13 ∨ i = 14 ∨ i = 15 := by omega
  rcases this with rfl | rfl | rfl | rfl | rfl | rfl | rfl | rfl | rfl | rfl | rfl | rfl | rfl | rfl | rfl | rfl <;> decide
theorem at_get (l : List ByteArray) (j : Nat) (h : j < l.length) : rdOf ByteArray.empty l (j : Int) = l[j] := by
  unfold rdOf
  simp [List.getD, h]
theorem upN (i : Nat) (h : i ≤ 1000) : wrap64 ((i : Int) + 1) = ((i + 1 : Nat) : Int) := by rw [w64 (by omega) (by omega)]; omega
/-! the program's -/
theorem f0_ev (l : List ByteArray) (hl : l.length ≤ 4) (hs : ∀ s ∈ l, s.size ≤ 300) : ∀ (d j : Nat) (x : ByteArray) (i : Int), j + d = l.length → 0 ≤ i → i < 16 → x.size ≤ 300 → Sha.Ev (fun k => merkle_Fold.l0 k x i l (l.length : Int) (j : Int)) (Fo (l.drop j) i x, true)
  | 0, j, x, i, h, h0, h1, hx => by
    rw [List.drop_of_length_le (by omega)]
    refine Ev.succ (G := fun _ => some (x, true)) (fun k => ?_) (Ev.pure _)
    simp only [merkle_Fold.l0]
    rw [if_neg (by omega)]
  | d + 1, j, x, i, h, h0, h1, hx => by
    have hj : j < l.length := by omega
    have hp := hs _ (List.getElem_mem hj)
    rw [List.drop_eq_getElem_cons hj]
    show Sha.Ev _ (Fo (l.drop (j + 1)) (i / 2) (tg (pr i x l[j])), true)
    have hpm := pr_mem i x l[j] (by omega) (by omega)
    have ht := tag_ev (pr i x l[j]) hpm (by rw [pr_len]; decide)
    have ih := f0_ev l hl hs d (j + 1) (tg (pr i x l[j])) (i / 2) (by omega) (by omega) (by omega) (by unfold tg; rw [dig_size]; decide)
    refine Ev.succ (fun k => ?_) (Ev.bind ht ih) (G := fun k => (sha_Tag.f k 4 (pr i x l[j])).bind fun t => merkle_Fold.l0 k t (i / 2) l (l.length : Int) ((j + 1 : Nat) : Int))
    simp only [merkle_Fold.l0, Option.bind_some, and_one i h0 h1, at_get l j hj, upN j (by omega)]
    rw [if_pos (by omega), if_pos (by omega), if_pos (by omega), if_pos (by rw [List.length_replicate]), if_pos (by rw [List.length_replicate]; decide)]
    unfold pr
    by_cases c : i % 2 = 1
    · rw [if_pos c, if_pos c]
    · rw [if_neg c, if_neg c]
def fold (x : ByteArray) (i : Int) (l : List ByteArray) : ByteArray × Bool := if l.length ≤ 4 ∧ 0 ≤ i ∧ i < 2 ^ l.length then (Fo l i x, true) else (⟨#[]⟩, false)
theorem shl_one (n : Nat) (h : n ≤ 4) : shl .i64 1 (n : Int) = 2 ^ n := by
  have : n = 0 ∨ n = 1 ∨ n = 2 ∨ n = 3 ∨ n = 4 := by omega
  rcases this with rfl | rfl | rfl | rfl | rfl <;> decide
theorem pow4 (n : Nat) (h : n ≤ 4) : (2 : Int) ^ n ≤ 16 := by
  have : n = 0 ∨ n = 1 ∨ n = 2 ∨ n = 3 ∨ n = 4 := by omega
  rcases this with rfl | rfl | rfl | rfl | rfl <;> decide
theorem fold_ev (x : ByteArray) (hx : x.size ≤ 300) (i : Int) (l : List ByteArray) (hs : l.length ≤ 4 → ∀ s ∈ l, s.size ≤ 300) : Sha.Ev (fun k => merkle_Fold.f k x i l) (fold x i l) := by
  have no : Sha.Ev (fun k => merkle_Fold.j0 k x i l true) ((⟨#[]⟩ : ByteArray), false) := Ev.succ (G := fun _ => some ((⟨#[]⟩ : ByteArray), false)) (fun k => by simp only [merkle_Fold.j0]; rw [if_pos trivial]) (Ev.pure _)
  unfold merkle_Fold.f fold
  by_cases c : (l.length : Int) > 4
  · rw [if_neg (by omega)]
    exact ifs c no
  · refine ifn c ?_
    have hl : l.length ≤ 4 := by omega
    rw [shl_one _ hl]
    by_cases c2 : i < 0
    · rw [if_neg (by omega)]
      exact ifs c2 no
    · refine ifn c2 ?_
      have hp := pow4 l.length hl
      by_cases c3 : i ≥ 2 ^ l.length
      · rw [if_neg (by omega), decide_eq_true c3]
        exact no
      · rw [if_pos ⟨hl, by omega, by omega⟩, decide_eq_false c3]
        refine Ev.succ (fun k => ?_) (f0_ev l hl (hs hl) l.length 0 x i (by omega) (by omega) (by omega) hx)
        simp only [merkle_Fold.j0]
        rw [if_neg (by decide)]
        rfl
/-! the document's -/
theorem r1_ev (l : List ByteArray) (hl : l.length ≤ 4) (hs : ∀ s ∈ l, s.size ≤ 300) : ∀ (d j : Nat) (x : ByteArray) (i : Int) (o : List ByteArray), j + d = l.length → 0 ≤ i → i < 16 → x.size ≤ 300 → o.length ≤ j → Sha.Ev (fun k => palaverref04_Fold.l1 k x i l o (j : Int)) (Fo (l.drop j) i x, o ++ Rd (l.drop j) i x, true)
  | 0, j, x, i, o, h, h0, h1, hx, ho => by
    rw [List.drop_of_length_le (by omega)]
    refine Ev.succ (G := fun _ => some (x, o, true)) (fun k => ?_) ?_
    · simp only [palaverref04_Fold.l1]
      rw [if_neg (by omega)]
    · show Sha.Ev _ (x, o ++ [], true)
      rw [List.append_nil]
      exact Ev.pure _
  | d + 1, j, x, i, o, h, h0, h1, hx, ho => by
    have hj : j < l.length := by omega
    have hp := hs _ (List.getElem_mem hj)
    rw [List.drop_eq_getElem_cons hj]
    show Sha.Ev _ (Fo (l.drop (j + 1)) (i / 2) (tg (pr i x l[j])), o ++ (inp (pr i x l[j]) :: Rd (l.drop (j + 1)) (i / 2) (tg (pr i x l[j]))), true)
    have hpm := pr_mem i x l[j] (by omega) (by omega)
    have hin := rinput_small 4 (by decide) (pr i x l[j]) hpm (by rw [pr_len]; decide)
    have ht := rtag_ev (pr i x l[j]) hpm (by rw [pr_len]; decide)
    have ih := r1_ev l hl hs d (j + 1) (tg (pr i x l[j])) (i / 2) (o ++ [inp (pr i x l[j])]) (by omega) (by omega) (by omega) (by unfold tg; rw [dig_size]; decide) (by rw [List.length_append]; simp; omega)
    rw [List.append_assoc] at ih
    have t1 : Int.tmod i 2 = i % 2 := Int.tmod_eq_emod_of_nonneg h0
    have t2 : Int.tdiv i 2 = i / 2 := Int.tdiv_eq_ediv_of_nonneg h0
    have w2 : wrap64 (i / 2) = i / 2 := w64 (by omega) (by omega)
    refine Ev.succ (fun k => ?_) (Ev.bind hin (ifs (show o.length < 8796093022208 by omega) (Ev.bind ht ih))) (G := fun k => (palaverref02_Input.f k 4 (pr i x l[j])).bind fun t => if o.length < 8796093022208 then ((palaverref02_Tag.f k 4 (pr i x l[j])).bind fun u => palaverref04_Fold.l1 k u (i / 2) l (o ++ [t]) ((j + 1 : Nat) : Int)) else none)
    simp only [palaverref04_Fold.l1, at_get l j hj, upN j (by omega), t1, t2, w2]
    rw [if_pos (by omega), if_pos (by omega)]
    unfold pr
    by_cases c : i % 2 = 1
    · rw [if_pos c, if_pos c]
    · rw [if_neg c, if_neg c]
def rfold (x : ByteArray) (i : Int) (l : List ByteArray) : ByteArray × List ByteArray × Bool := if l.length ≤ 4 ∧ 0 ≤ i ∧ i < 2 ^ l.length then (Fo l i x, Rd l i x, true) else (⟨#[]⟩, [], false)
theorem q1_ev (x : ByteArray) (hx : x.size ≤ 300) (i : Int) (l : List ByteArray) (hs : l.length ≤ 4 → ∀ s ∈ l, s.size ≤ 300) (n : Int) (hn : l.length ≤ 4 → n = 2 ^ l.length) : Sha.Ev (fun k => palaverref04_Fold.j1 k x i l n) (rfold x i l) := by
  have no : Sha.Ev (fun k => palaverref04_Fold.j2 k x i l true) ((⟨#[]⟩ : ByteArray), ([] : List ByteArray), false) := Ev.succ (G := fun _ => some ((⟨#[]⟩ : ByteArray), ([] : List ByteArray), false)) (fun k => by simp only [palaverref04_Fold.j2]; rw [if_pos trivial]) (Ev.pure _)
  refine Ev.succ (G := fun k => if (l.length : Int) > 4 then (palaverref04_Fold.j2 k x i l true) else (if i < 0 then (palaverref04_Fold.j2 k x i l true) else (palaverref04_Fold.j2 k x i l (decide (i ≥ n))))) (fun k => by simp only [palaverref04_Fold.j1]) ?_
  unfold rfold
  by_cases c : (l.length : Int) > 4
  · rw [if_neg (by omega)]
    exact ifs c no
  · refine ifn c ?_
    have hl : l.length ≤ 4 := by omega
    rw [hn hl]
    by_cases c2 : i < 0
    · rw [if_neg (by omega)]
      exact ifs c2 no
    · refine ifn c2 ?_
      have hp := pow4 l.length hl
      by_cases c3 : i ≥ 2 ^ l.length
      · rw [if_neg (by omega), decide_eq_true c3]
        exact no
      · rw [if_pos ⟨hl, by omega, by omega⟩, decide_eq_false c3]
        refine Ev.succ (fun k => ?_) (r1_ev l hl (hs hl) l.length 0 x i [] (by omega) (by omega) (by omega) hx (by simp))
        simp only [palaverref04_Fold.j2]
        rw [if_neg (by decide)]
        rfl
theorem q0_ev (x : ByteArray) (hx : x.size ≤ 300) (i : Int) (l : List ByteArray) (hs : l.length ≤ 4 → ∀ s ∈ l, s.size ≤ 300) : ∀ (d j : Nat) (n : Int), j + d = 5 → j ≤ l.length → n = 2 ^ j → Sha.Ev (fun k => palaverref04_Fold.l0 k x i l n (j : Int)) (rfold x i l)
  | 0, j, n, h, hj, hn => by
    refine Ev.succ (fun k => ?_) (q1_ev x hx i l hs n (fun h4 => by omega))
    simp only [palaverref04_Fold.l0]
    by_cases c : (j : Int) < (l.length : Int)
    · rw [if_pos c, if_neg (by omega)]
    · rw [if_neg c]
  | d + 1, j, n, h, hj, hn => by
    by_cases c : j < l.length
    · have hp := pow4 j (by omega)
      have h1 : (1 : Int) ≤ 2 ^ j := by
        have : j = 0 ∨ j = 1 ∨ j = 2 ∨ j = 3 ∨ j = 4 := by omega
        rcases this with rfl | rfl | rfl | rfl | rfl <;> decide
      have e : wrap64 (2 * n) = 2 ^ (j + 1) := by rw [hn, w64 (by omega) (by omega), Int.pow_succ]; omega
      refine Ev.succ (fun k => ?_) (q0_ev x hx i l hs d (j + 1) (2 ^ (j + 1)) (by omega) (by omega) rfl)
      simp only [palaverref04_Fold.l0, e, upN j (by omega)]
      rw [if_pos (by omega), if_pos (by omega)]
    · refine Ev.succ (fun k => ?_) (q1_ev x hx i l hs n (fun h4 => by rw [hn, show j = l.length by omega]))
      simp only [palaverref04_Fold.l0]
      rw [if_neg (by omega)]
theorem rfold_ev (x : ByteArray) (hx : x.size ≤ 300) (i : Int) (l : List ByteArray) (hs : l.length ≤ 4 → ∀ s ∈ l, s.size ≤ 300) : Sha.Ev (fun k => palaverref04_Fold.f k x i l) (rfold x i l) :=
  q0_ev x hx i l hs 5 0 1 (by omega) (by omega) rfl
/-! long ones -/
end Go.Proofs.YtnfbagkeenjifaaGreatDoor.Sha
