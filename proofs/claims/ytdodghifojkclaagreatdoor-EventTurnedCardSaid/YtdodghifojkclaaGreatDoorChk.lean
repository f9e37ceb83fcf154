/-
  Signatures: their parts: the program's are the document's.
  Conditions: none.
-/
import Derived.Test.YtdodghifojkclaaGreatDoorOctA
import Derived.Test.YtdodghifojkclaaGreatDoorMrk
import Derived.Test.YtdodghifojkclaaGreatDoorWts3
import Derived.Test.YtdodghifojkclaaGreatDoorPPx3
namespace Go.Proofs.YtdodghifojkclaaGreatDoor.Oct
open Go.RowKit Go.Proofs.YtdodghifojkclaaGreatDoor.PP Go.Proofs.YtdodghifojkclaaGreatDoorW.PrintWords Go.Proofs.YtdodghifojkclaaGreatDoorW.PrintLast Go.Proofs.YtdodghifojkclaaGreatDoorW.PrintMore
set_option linter.unusedSimpArgs false
set_option linter.unusedVariables false

theorem bt_bytes (s : ByteArray) (i : Nat) (h : i < s.size) : bt s (i : Int) = (bytesOf s)[i]'(by rw [bytesOf_length]; exact h) := by
  unfold bytesOf
  rw [bt, dif_pos (by simpa using h)]
  simp
  rfl
/-- The number of few bytes, as the document has it. -/
theorem value_loop (s : ByteArray) (hs : s.size ≤ 6) :
    ∀ (d k i : Nat) (x : Int), i + d = s.size → 0 ≤ x → x < 256 ^ i → d < k → J7.l0 k s x (i : Int) = some (bv x ((bytesOf s).drop i))
  | 0, k, i, x, hi, h0, h1, hk => by
    obtain ⟨k, rfl⟩ : ∃ m, k = m + 1 := ⟨k - 1, by omega⟩
    rw [J7.l0, if_neg (by omega), List.drop_of_length_le (by rw [bytesOf_length]; omega)]
    rfl
  | d + 1, k, i, x, hi, h0, h1, hk => by
    obtain ⟨k, rfl⟩ : ∃ m, k = m + 1 := ⟨k - 1, by omega⟩
    have hil : i < s.size := by omega
    have hil2 : i < (bytesOf s).length := by rw [bytesOf_length]; exact hil
    have hm := bytesOf_mem s _ (List.getElem_mem hil2)
    have hp : (256 : Int) ^ i ≤ 1099511627776 := by
      have h : (256 : Nat) ^ i ≤ 1099511627776 := Nat.le_trans (Nat.pow_le_pow_right (by decide) (show i ≤ 5 by omega)) (by decide)
      rw [show (256 : Int) ^ i = ((256 ^ i : Nat) : Int) by simp]
      omega
    have hx : x < 1099511627776 := by omega
    rw [J7.l0, if_pos (by omega), if_pos (by omega), bt_bytes s i hil, w64 (n := 256 * x) (by omega) (by omega), w64 (n := (bytesOf s)[i]) (by omega) (by omega), w64 (n := 256 * x + (bytesOf s)[i]) (by omega) (by omega), w64 (n := (i : Int) + 1) (by omega) (by omega)]
    have hs2 : 256 * x + (bytesOf s)[i] < 256 ^ (i + 1) := by
      rw [Int.pow_succ]
      omega
    have := value_loop s hs d k (i + 1) (256 * x + (bytesOf s)[i]) (by omega) (by omega) hs2 (by omega)
    rw [show ((i : Int) + 1) = ((i + 1 : Nat) : Int) by omega, this, List.drop_eq_getElem_cons hil2]
    show some _ = some (bv (x * 256 + (bytesOf s)[i]) _)
    rw [Int.mul_comm]
theorem value_eq (k : Nat) (s : ByteArray) (hs : s.size ≤ 6) (hk : 7 ≤ k) : J7.f k s = some (bv 0 (bytesOf s)) := by
  unfold J7.f
  have := value_loop s hs s.size k 0 0 (by omega) (by omega) (by simp) (by omega)
  rw [List.drop_zero] at this
  exact this
end Go.Proofs.YtdodghifojkclaaGreatDoor.Oct
namespace Go.Proofs.YtdodghifojkclaaGreatDoor.Oct.Evt
open Go.RowKit Go.Proofs.YtdodghifojkclaaGreatDoor.PP Go.Proofs.YtdodghifojkclaaGreatDoorW.PrintWords Go.Proofs.YtdodghifojkclaaGreatDoorW.PrintLast Go.Proofs.YtdodghifojkclaaGreatDoorW.PrintMore
open Go.Proofs.YtdodghifojkclaaGreatDoor.Sha (ifs ifn)
set_option linter.unusedSimpArgs false
set_option linter.unusedVariables false

/-- A text in pieces of 32. -/
def ch : Nat → ByteArray → List ByteArray
  | 0, _ => []
  | d + 1, x => x.extract 0 32 :: ch d (x.extract 32 x.size)
theorem ch_len : ∀ (d : Nat) (x : ByteArray), (ch d x).length = d
  | 0, _ => rfl
  | d + 1, x => by simp [ch, ch_len d]
abbrev Prt := Int × List ByteArray × List ByteArray × Bool
def noPrt : Prt := (0, [], [], false)
/-- The parts of a signature of 67 + h pieces. -/
def prt (h : Nat) (leaf : Int) (l : List ByteArray) : Prt := if leaf ≥ 2 ^ h then noPrt else (leaf, l.take 67, l.drop 67, true)
theorem prt_no {h : Nat} {leaf : Int} {l : List ByteArray} (c : leaf ≥ 2 ^ h) : prt h leaf l = noPrt := if_pos c
theorem prt_yes {h : Nat} {leaf : Int} {l : List ByteArray} (c : ¬ leaf ≥ 2 ^ h) : prt h leaf l = (leaf, l.take 67, l.drop 67, true) := if_neg c
theorem ext_size5 (s : ByteArray) (a b : Nat) (h : a ≤ b) (h2 : b ≤ s.size) : (s.extract a b).size = b - a := by simp; omega
/-! the program's -/
theorem kp_loop (h : Nat) (hh : h ≤ 4) (leaf : Int) : ∀ (d : Nat) (x : ByteArray) (l : List ByteArray), x.size = 32 * d → l.length + d = 67 + h →
    Sha.Ev (fun k => J3.l0 k (h : Int) leaf l x false) (prt h leaf (l ++ ch d x))
  | 0, x, l, hx, hl => by
    rw [show ch 0 x = [] from rfl, List.append_nil]
    refine Sha.Ev.succ (fun k => J3.l0.eq_2 (h : Int) leaf l x false k) ?_
    simp only [rLeft_eq, Option.bind_some]
    refine ifn (by rw [if_neg (by decide)]; omega) (ifs (by omega) ?_)
    rw [Sha.shl_one h hh]
    by_cases c : leaf ≥ 2 ^ h
    · rw [prt_no c]
      exact ifs c (Sha.Ev.pure _)
    · rw [prt_yes c]
      exact ifn c (ifs (by omega) (Sha.Ev.pure _))
  | d + 1, x, l, hx, hl => by
    have ih := kp_loop h hh leaf d (x.extract 32 x.size) (l ++ [x.extract 0 32]) (by rw [ext_size5 _ _ _ (by omega) (Nat.le_refl _)]; omega) (by simp; omega)
    refine Sha.Ev.succ (fun k => J3.l0.eq_2 (h : Int) leaf l x false k) ?_
    simp only [rLeft_eq, Option.bind_some]
    refine ifs (by rw [if_neg (by decide)]; omega) (Sha.Ev.bind (v := (x.extract 0 32, x.extract 32 x.size, false)) ?_ (ifs (by omega) ?_))
    · refine Sha.Ev.succ (G := fun _ => some (x.extract 0 32, x.extract 32 x.size, false)) (fun k => ?_) (Sha.Ev.pure _)
      rw [Take_eq, take_ok x 32 (by omega) (by omega)]
      rfl
    · rw [List.append_assoc] at ih
      exact ih
/-- How many pieces lead from the leaf, if the bytes are so many. -/
def hgt (n : Nat) : Option Nat := if 2146 ≤ n ∧ (n - 2) % 32 = 0 ∧ (n - 2) / 32 - 67 ≤ 4 then some ((n - 2) / 32 - 67) else none
/-- The parts of a signature. -/
def parts5 (s : ByteArray) : Prt := match hgt s.size with
  | none => noPrt
  | some h => prt h (bv 0 (bytesOf (s.extract 0 2))) (ch (67 + h) (s.extract 2 s.size))
theorem kp_no (s : ByteArray) (n : Int) : Sha.Ev (fun k => J3.j0 k s n true) noPrt :=
  Sha.Ev.succ (fun k => J3.j0.eq_2 s n true k) (ifs rfl (Sha.Ev.pure _))
theorem kp_ev (s : ByteArray) (hs : s.size ≤ 100000) : Sha.Ev (fun k => J3.f k s) (parts5 s) := by
  unfold J3.f parts5
  have w1 : wrap64 ((s.size : Int) - 2) = (s.size : Int) - 2 := w64 (by omega) (by omega)
  by_cases c0 : (s.size : Int) < 2
  · rw [show hgt s.size = none from if_neg (by omega)]
    exact ifs c0 (kp_no s _)
  · refine ifn c0 ?_
    have e1 : Int.tmod ((s.size : Int) - 2) 32 = (((s.size - 2) % 32 : Nat) : Int) := by rw [Int.tmod_eq_emod_of_nonneg (by omega)]; omega
    have e2 : Int.tdiv ((s.size : Int) - 2) 32 = (((s.size - 2) / 32 : Nat) : Int) := by rw [Int.tdiv_eq_ediv_of_nonneg (by omega)]; omega
    have w2 : wrap64 (((s.size - 2) / 32 : Nat) : Int) = (((s.size - 2) / 32 : Nat) : Int) := w64 (by omega) (by omega)
    have w3 : wrap64 ((((s.size - 2) / 32 : Nat) : Int) - 67) = (((s.size - 2) / 32 : Nat) : Int) - 67 := w64 (by omega) (by omega)
    simp only [w1, e1, e2, w2, w3]
    by_cases c1 : (s.size - 2) % 32 = 0
    · refine ifs (by omega) ?_
      by_cases c2 : ((((s.size - 2) / 32 : Nat) : Int) - 67) < 0
      · rw [show hgt s.size = none from if_neg (by omega)]
        exact ifs c2 (kp_no s _)
      · refine ifn c2 ?_
        by_cases c3 : ((((s.size - 2) / 32 : Nat) : Int) - 67) > 4
        · rw [show hgt s.size = none from if_neg (by omega), decide_eq_true c3]
          exact kp_no s _
        · rw [decide_eq_false c3, show hgt s.size = some ((s.size - 2) / 32 - 67) from if_pos (by omega)]
          obtain ⟨h, eh⟩ : ∃ h, (s.size - 2) / 32 - 67 = h := ⟨_, rfl⟩
          rw [show ((((s.size - 2) / 32 : Nat) : Int) - 67) = (h : Int) by omega, eh]
          refine Sha.Ev.succ (fun k => J3.j0.eq_2 s (h : Int) false k) (ifn (by decide) ?_)
          simp only [U2.f, Option.bind_some]
          refine Sha.Ev.bind (v := (bv 0 (bytesOf (s.extract 0 2)), s.extract 2 s.size, false)) ⟨8, fun k hk => ?_⟩ ?_
          · show Ug.f k s false = _
            rw [rShort_eq k s false hk, take_ok s 2 (by omega) (by omega)]
            rfl
          · exact kp_loop h (by omega) _ (67 + h) (s.extract 2 s.size) [] (by rw [ext_size5 _ _ _ (by omega) (Nat.le_refl _)]; omega) (by simp)
    · rw [show hgt s.size = none from if_neg (by omega)]
      exact ifn (by omega) (kp_no s _)
/-! the document's -/
theorem piece0 (s : ByteArray) (i : Nat) (h : i + 32 ≤ s.size) : (s.extract i s.size).extract 0 32 = s.extract i (i + 32) := by
  apply bytesOf_inj
  have hl : (bytesOf s).length = s.size := bytesOf_length s
  simp only [bytesOf_ext, List.drop_zero]
  rw [List.take_of_length_le (l := bytesOf s) (by omega), List.take_drop, List.drop_take]
theorem piece1 (s : ByteArray) (i : Nat) (h : i + 32 ≤ s.size) : (s.extract i s.size).extract 32 (s.extract i s.size).size = s.extract (i + 32) s.size := by
  apply bytesOf_inj
  have hl : (bytesOf s).length = s.size := bytesOf_length s
  have hz : (s.extract i s.size).size = s.size - i := ext_size5 _ _ _ (by omega) (Nat.le_refl _)
  simp only [bytesOf_ext]
  rw [hz, List.take_of_length_le (l := bytesOf s) (by omega), List.take_of_length_le (by rw [List.length_drop]; omega), List.drop_drop]
theorem rp_l2 (s : ByteArray) (hs : s.size ≤ 100000) (leaf : Int) (h : Nat) : ∀ (d i : Nat) (l : List ByteArray), i + 32 * d = s.size → l.length + d = 67 + h → h ≤ 4 →
    Sha.Ev (fun k => Jk.l2 k s leaf l (i : Int)) (leaf, (l ++ ch d (s.extract i s.size)).take 67, (l ++ ch d (s.extract i s.size)).drop 67, true)
  | 0, i, l, hi, hl, hh => by
    rw [show ch 0 (s.extract i s.size) = [] from rfl, List.append_nil]
    exact Sha.Ev.succ (fun k => Jk.l2.eq_2 s leaf l (i : Int) k) (ifn (by omega) (ifs (by omega) (Sha.Ev.pure _)))
  | d + 1, i, l, hi, hl, hh => by
    have ih := rp_l2 s hs leaf h d (i + 32) (l ++ [s.extract i (i + 32)]) (by omega) (by simp; omega) hh
    have w : wrap64 ((i : Int) + 32) = ((i + 32 : Nat) : Int) := by rw [w64 (by omega) (by omega)]; omega
    rw [show ch (d + 1) (s.extract i s.size) = (s.extract i s.size).extract 0 32 :: ch d ((s.extract i s.size).extract 32 (s.extract i s.size).size) from rfl, piece0 s i (by omega), piece1 s i (by omega)]
    refine Sha.Ev.succ (fun k => Jk.l2.eq_2 s leaf l (i : Int) k) ?_
    rw [w]
    refine ifs (by omega) (ifs (by omega) (ifs (by omega) (ifs (by omega) (ifs (by omega) ?_))))
    rw [List.append_assoc] at ih
    exact ih
theorem rp_l1 (s : ByteArray) (hs : s.size ≤ 100000) (leaf : Int) (h : Nat) (hh : h ≤ 4) (hz : s.size = 2 + 32 * (67 + h)) : ∀ (d j : Nat), j + d = h →
    Sha.Ev (fun k => Jk.l1 k s (h : Int) leaf ((2 ^ j : Nat) : Int) (j : Int)) (prt h leaf (ch (67 + h) (s.extract 2 s.size)))
  | 0, j, hj => by
    have e : j = h := by omega
    subst e
    refine Sha.Ev.succ (fun k => Jk.l1.eq_2 s (j : Int) leaf ((2 ^ j : Nat) : Int) (j : Int) k) (ifn (by omega) ?_)
    have e2 : ((2 ^ j : Nat) : Int) = 2 ^ j := by simp
    by_cases c : leaf ≥ 2 ^ j
    · rw [prt_no c]
      exact ifs (by rw [e2]; exact c) (Sha.Ev.pure _)
    · rw [prt_yes c]
      refine ifn (by rw [e2]; exact c) ?_
      have := rp_l2 s hs leaf j (67 + j) 2 [] (by omega) (by simp) hh
      exact this
  | d + 1, j, hj => by
    have ih := rp_l1 s hs leaf h hh hz d (j + 1) (by omega)
    have hp : 2 ^ j ≤ 16 := Nat.le_trans (Nat.pow_le_pow_right (by decide) (show j ≤ 4 by omega)) (by decide)
    have w1 : wrap64 (2 * ((2 ^ j : Nat) : Int)) = ((2 ^ (j + 1) : Nat) : Int) := by
      rw [Nat.pow_succ]
      generalize 2 ^ j = p at hp ⊢
      rw [w64 (by omega) (by omega)]
      omega
    have w2 : wrap64 ((j : Int) + 1) = ((j + 1 : Nat) : Int) := by rw [w64 (by omega) (by omega)]; omega
    refine Sha.Ev.succ (fun k => Jk.l1.eq_2 s (h : Int) leaf ((2 ^ j : Nat) : Int) (j : Int) k) ?_
    rw [w1, w2]
    exact ifs (by omega) ih
theorem rp_l0 (s : ByteArray) (hs : s.size ≤ 100000) : ∀ (d j : Nat), j + d = 5 → (∀ i, i < j → s.size ≠ 2 + 32 * (67 + i)) → Sha.Ev (fun k => Jk.l0 k s (j : Int)) (parts5 s)
  | 0, j, hj, hn => by
    have e : parts5 s = noPrt := by
      unfold parts5
      rw [show hgt s.size = none from if_neg (fun z => by have := hn ((s.size - 2) / 32 - 67) (by omega); omega)]
    rw [e]
    exact Sha.Ev.succ (fun k => Jk.l0.eq_2 s (j : Int) k) (ifn (by omega) (Sha.Ev.pure _))
  | d + 1, j, hj, hn => by
    have w : wrap64 (2 + wrap64 (32 * wrap64 (67 + (j : Int)))) = ((2 + 32 * (67 + j) : Nat) : Int) := by
      rw [w64 (n := 67 + (j : Int)) (by omega) (by omega), w64 (n := 32 * (67 + (j : Int))) (by omega) (by omega), w64 (by omega) (by omega)]
      omega
    have w2 : wrap64 ((j : Int) + 1) = ((j + 1 : Nat) : Int) := by rw [w64 (by omega) (by omega)]; omega
    refine Sha.Ev.succ (fun k => Jk.l0.eq_2 s (j : Int) k) ?_
    rw [w, w2]
    by_cases c : s.size = 2 + 32 * (67 + j)
    · refine ifs (by omega) (ifs (by omega) (ifs (by decide) (ifs (by omega) ?_)))
      have hz : (s.extract 0 2).size = 2 := ext_size5 _ _ _ (by omega) (by omega)
      have e : parts5 s = prt j (bv 0 (bytesOf (s.extract 0 2))) (ch (67 + j) (s.extract 2 s.size)) := by
        unfold parts5
        rw [show hgt s.size = some j by unfold hgt; rw [if_pos (by omega)]; congr 1; omega]
      rw [e]
      refine Sha.Ev.bind (v := bv 0 (bytesOf (s.extract 0 2))) ⟨7, fun k hk => value_eq k _ (by omega) hk⟩ ?_
      exact rp_l1 s hs _ j (by omega) c j 0 (by omega)
    · refine ifs (by omega) (ifn (by omega) ?_)
      exact rp_l0 s hs d (j + 1) (by omega) (fun i hi => by
        by_cases e : i = j
        · subst e; exact c
        · exact hn i (by omega))
theorem rp_ev (s : ByteArray) (hs : s.size ≤ 100000) : Sha.Ev (fun k => Jk.f k s) (parts5 s) := rp_l0 s hs 5 0 rfl (fun i hi => by omega)

theorem ch_mem : ∀ (d : Nat) (x : ByteArray), ∀ y ∈ ch d x, y.size ≤ 300
  | 0, _, y, h => by cases h
  | d + 1, x, y, h => by
    rcases List.mem_cons.1 h with rfl | h
    · simp; omega
    · exact ch_mem d _ y h
theorem parts5_ok {s : ByteArray} {leaf : Int} {vs ps : List ByteArray} (h : parts5 s = (leaf, vs, ps, true)) :
    ∃ n : Nat, n ≤ 4 ∧ vs.length = 67 ∧ ps.length = n ∧ (∀ x ∈ vs, x.size ≤ 300) ∧ (∀ x ∈ ps, x.size ≤ 300) ∧ leaf < 2 ^ n ∧ leaf = bv 0 (bytesOf (s.extract 0 2)) ∧ 2 ≤ s.size := by
  unfold parts5 at h
  cases e : hgt s.size with
  | none => rw [e] at h; simp [noPrt] at h
  | some n =>
    rw [e] at h
    simp only at h
    unfold hgt at e
    split at e
    · rename_i hc
      have en := Option.some.inj e
      by_cases c : bv 0 (bytesOf (s.extract 0 2)) ≥ 2 ^ n
      · rw [prt_no c] at h
        simp [noPrt] at h
      · rw [prt_yes c] at h
        simp only [Prod.mk.injEq, and_true] at h
        obtain ⟨h1, h2, h3⟩ := h
        have hl := ch_len (67 + n) (s.extract 2 s.size)
        refine ⟨n, by omega, by rw [← h2, List.length_take, hl]; omega, by rw [← h3, List.length_drop, hl]; omega, fun x hx => ?_, fun x hx => ?_, by rw [← h1]; omega, h1.symm, by omega⟩
        · rw [← h2] at hx
          exact ch_mem _ _ x (List.mem_of_mem_take hx)
        · rw [← h3] at hx
          exact ch_mem _ _ x (List.mem_of_mem_drop hx)
    · cases e
theorem two_nonneg (s : ByteArray) : 0 ≤ bv 0 (bytesOf (s.extract 0 2)) := by
  have hm := bytesOf_mem (s.extract 0 2)
  have : ∀ (l : List Int) (x : Int), (∀ c ∈ l, 0 ≤ c ∧ c < 256) → 0 ≤ x → 0 ≤ bv x l := by
    intro l
    induction l with
    | nil => intro x _ hx; exact hx
    | cons a l ih =>
      intro x hc hx
      have := hc a (by simp)
      exact ih (x * 256 + a) (fun c h => hc c (List.mem_cons_of_mem _ h)) (by omega)
  exact this _ 0 hm (by omega)
theorem one_mem (c : ByteArray) (hc : c.size ≤ 2000) : ∀ x ∈ [c], x.size ≤ 2000 := by
  intro x hx
  simp at hx
  rw [hx]
  exact hc
theorem Fo_size : ∀ (l : List ByteArray) (i : Int) (x : ByteArray), x.size ≤ 300 → (Sha.Fo l i x).size ≤ 300
  | [], _, x, h => h
  | p :: l, i, x, h => Fo_size l _ _ (by rw [show (Sha.tg (Sha.pr i x p)).size = 32 from Sha.dig_size _]; decide)
theorem pair_mem (x y : ByteArray) (hx : x.size ≤ 2000) (hy : y.size ≤ 2000) : ∀ s ∈ [x, y], s.size ≤ 2000 := by
  intro s h
  rcases List.mem_cons.1 h with rfl | h
  · exact hx
  · simp at h
    rw [h]
    exact hy
theorem named_ev (n : Nat) (hn : n ≤ 4) (x : ByteArray) (hx : x.size ≤ 300) : Sha.Ev (fun k => Uw.f k (n : Int) x) (Sha.tT 5 [Sha.one n, x]) := by
  unfold Uw.f
  exact Sha.Ev.bind (Sha.one_ev n (by omega)) (Sha.Ev.bind (Sha.tagT 5 _ (pair_mem _ _ (by rw [Sha.one_size]; decide) (by omega)) (by simp)) (Sha.Ev.pure _))
theorem rnamed_ev (n : Nat) (hn : n ≤ 4) (x : ByteArray) (hx : x.size ≤ 300) : Sha.Ev (fun k => Ui.f k (n : Int) x) (Sha.tT 5 [Sha.one n, x]) := by
  unfold Ui.f
  exact Sha.Ev.bind (Sha.rone_ev n (by omega)) (Sha.Ev.bind (Sha.rtagT 5 (by decide) _ (pair_mem _ _ (by rw [Sha.one_size]; decide) (by omega)) (by simp)) (Sha.Ev.pure _))
end Go.Proofs.YtdodghifojkclaaGreatDoor.Oct.Evt
