/-
  Digits: the program's and the document's are one list.
  Conditions: none.
-/
import Derived.Test.YtdodghifojkclaaGreatDoorSha5
import Derived.Laws.BitsLemmas
import Derived.Test.YtdodghifojkclaaGreatDoorPPx2
import Derived.Test.YtdodghifojkclaaGreatDoorPPx3
namespace Go.Proofs.YtdodghifojkclaaGreatDoor.Sha
open Go.RowKit Go.Proofs.YtdodghifojkclaaGreatDoor.PP Go.Proofs.YtdodghifojkclaaGreatDoorW.PrintWords Go.Proofs.YtdodghifojkclaaGreatDoorW.PrintLast Go.Proofs.YtdodghifojkclaaGreatDoorW.PrintMore
set_option linter.unusedSimpArgs false
set_option linter.unusedVariables false

theorem i64_mask (n : Int) (j : Nat) (m : Int) (hm : m = ((2 ^ j - 1 : Nat) : Int)) (hj : j ≤ 8) : Go.bits .and .i64 n m = n % ((2 ^ j : Nat) : Int) := by
  have hj2 : j = 0 ∨ j = 1 ∨ j = 2 ∨ j = 3 ∨ j = 4 ∨ j = 5 ∨ j = 6 ∨ j = 7 ∨ j = 8 := by omega
  have hM : (BitVec.ofInt 64 m).toNat = 2 ^ j - 1 := by
    rw [hm]
    rcases hj2 with rfl | rfl | rfl | rfl | rfl | rfl | rfl | rfl | rfl <;> decide
  have key : (BitVec.ofInt 64 n &&& BitVec.ofInt 64 m).toNat = (n % ((2 ^ 64 : Nat) : Int)).toNat % 2 ^ j := by
    rw [BitVec.toNat_and, BitVec.toNat_ofInt, hM, Nat.and_two_pow_sub_one_eq_mod]
  show IntKind.i64.wrap ((BitVec.ofInt 64 n &&& BitVec.ofInt 64 m).toNat : Nat) = _
  rw [key, IntKind.wrap_i64]
  clear key hM hm
  rcases hj2 with rfl | rfl | rfl | rfl | rfl | rfl | rfl | rfl | rfl <;> omega
theorem i64_and15 (n : Int) : Go.bits .and .i64 n 15 = n % 16 := i64_mask n 4 15 (by decide) (by decide)
theorem i64_and255 (n : Int) : Go.bits .and .i64 n 255 = n % 256 := i64_mask n 8 255 (by decide) (by decide)
theorem upI (i : Nat) (h : i ≤ 100000) : wrap64 ((i : Int) + 1) = ((i + 1 : Nat) : Int) := by rw [w64 (by omega) (by omega)]; omega
def hx : List Int → List Int
  | [] => []
  | b :: l => b / 16 :: b % 16 :: hx l
def lk : List Int → Int
  | [] => 0
  | b :: l => (30 - b / 16 - b % 16) + lk l
def fi (n : Int) : List Int := [n / 256, n / 16 % 16, n % 16]
def Dg (s : ByteArray) : List Int := hx (bytesOf s) ++ fi (lk (bytesOf s))
theorem hx_len : ∀ l, (hx l).length = 2 * l.length
  | [] => rfl
  | b :: l => by
    show (hx l).length + 2 = 2 * (l.length + 1)
    rw [hx_len l]
    omega
theorem hx_mem : ∀ (l : List Int), (∀ c ∈ l, 0 ≤ c ∧ c < 256) → ∀ x ∈ hx l, 0 ≤ x ∧ x ≤ 15
  | [], _ => by intro x hx; cases hx
  | b :: l, h => by
    intro x hx
    have hb := h b (by simp)
    rcases List.mem_cons.1 hx with rfl | hx
    · omega
    · rcases List.mem_cons.1 hx with rfl | hx
      · omega
      · exact hx_mem l (fun c hc => h c (List.mem_cons_of_mem _ hc)) x hx
theorem lk_le : ∀ (l : List Int), (∀ c ∈ l, 0 ≤ c ∧ c < 256) → 0 ≤ lk l ∧ lk l ≤ 30 * (l.length : Int)
  | [], _ => ⟨Int.le_refl _, Int.le_refl _⟩
  | b :: l, h => by
    have hb := h b (by simp)
    have ih := lk_le l (fun c hc => h c (List.mem_cons_of_mem _ hc))
    show 0 ≤ (30 - b / 16 - b % 16) + lk l ∧ (30 - b / 16 - b % 16) + lk l ≤ 30 * ((l.length + 1 : Nat) : Int)
    omega
theorem Dg_len (s : ByteArray) (h : s.size = 32) : (Dg s).length = 67 := by
  unfold Dg
  rw [List.length_append, hx_len, bytesOf_length, h]
  rfl
theorem Dg_mem (s : ByteArray) (h : s.size = 32) : ∀ x ∈ Dg s, 0 ≤ x ∧ x ≤ 15 := by
  intro x hx
  have hl := lk_le (bytesOf s) (Oct.bytesOf_mem s)
  rw [bytesOf_length, h] at hl
  rcases List.mem_append.1 hx with hx | hx
  · exact hx_mem _ (Oct.bytesOf_mem s) x hx
  · unfold fi at hx
    simp only [List.mem_cons, List.not_mem_nil, or_false] at hx
    omega
theorem rd_get (l : List Int) (j : Nat) (h : j < l.length) : rd l (j : Int) = l[j] := by
  unfold rd
  simp [List.getD, h]
/-! the program's -/
theorem hex1 (b : Int) (h0 : 0 ≤ b) (h1 : b < 256) : wrap64 (b / 16) = b / 16 ∧ wrap64 (Go.bits .and .u8 b 15) = b % 16 := by
  constructor
  · exact w64 (by omega) (by omega)
  · rw [Go.u8_and15 b h0 h1]
    exact w64 (by omega) (by omega)
theorem hex2 (b n : Int) (h0 : 0 ≤ b) (h1 : b < 256) (h2 : 0 ≤ n) (h3 : n ≤ 1000000) : wrap64 (n + wrap64 (wrap64 (30 - b / 16) - b % 16)) = n + (30 - b / 16 - b % 16) := by
  rw [w64 (n := 30 - b / 16) (by omega) (by omega), w64 (n := 30 - b / 16 - b % 16) (by omega) (by omega)]
  exact w64 (by omega) (by omega)
theorem dig_l (bs : List Int) (hb : ∀ c ∈ bs, 0 ≤ c ∧ c < 256) (hl : bs.length = 32) : ∀ (d j : Nat) (acc : List Int) (n : Int), j + d = 32 → acc.length = 2 * j → 0 ≤ n → n ≤ 30 * (j : Int) → Sha.Ev (fun k => Ub.l0 k acc n bs 32 (j : Int)) (acc ++ (hx (bs.drop j) ++ fi (n + lk (bs.drop j))), true)
  | 0, j, acc, n, h, ha, h0, h1 => by
    rw [List.drop_of_length_le (by omega)]
    have hlim : acc.length + [n / 256, Go.bits .and .i64 (n / 16) 15, Go.bits .and .i64 n 15].length < 17592186044416 := by simp; omega
    refine Ev.succ (G := fun _ => some (acc ++ fi n, true)) (fun k => ?_) ?_
    · simp only [Ub.l0, Option.bind_some]
      rw [if_neg (by omega), if_pos hlim, i64_and15, i64_and15]
      rfl
    · show Sha.Ev _ (acc ++ ([] ++ fi (n + 0)), true)
      rw [List.nil_append, Int.add_zero]
      exact Ev.pure _
  | d + 1, j, acc, n, h, ha, h0, h1 => by
    have hj : j < bs.length := by omega
    have hc := hb _ (List.getElem_mem hj)
    have e1 := hex1 bs[j] hc.1 hc.2
    have e2 := hex2 bs[j] n hc.1 hc.2 h0 (by omega)
    rw [List.drop_eq_getElem_cons hj]
    have ih := dig_l bs hb hl d (j + 1) (acc ++ [bs[j] / 16, bs[j] % 16]) (n + (30 - bs[j] / 16 - bs[j] % 16)) (by omega) (by rw [List.length_append]; simp; omega) (by omega) (by omega)
    rw [List.append_assoc] at ih
    show Sha.Ev _ (acc ++ ((bs[j] / 16 :: bs[j] % 16 :: hx (bs.drop (j + 1))) ++ fi (n + ((30 - bs[j] / 16 - bs[j] % 16) + lk (bs.drop (j + 1))))), true)
    rw [← Int.add_assoc]
    have hlim : acc.length + [bs[j] / 16, bs[j] % 16].length < 17592186044416 := by simp; omega
    refine Ev.succ (fun k => ?_) ih
    simp only [Ub.l0, Option.bind_some, rd_get bs j hj, upI j (by omega), e1.1, e1.2, e2]
    clear e1 e2
    rw [if_pos (by omega), if_pos (by omega), if_pos (by omega), if_pos hlim]
theorem digits_ev (s : ByteArray) : Sha.Ev (fun k => Ub.f k s) (if s.size = 32 then (Dg s, true) else ([], false)) := by
  unfold Ub.f
  by_cases c : s.size = 32
  · rw [if_pos c]
    have hl := bytesOf_length s
    have := dig_l (bytesOf s) (Oct.bytesOf_mem s) (by omega) 32 0 [] 0 (by omega) rfl (by omega) (by omega)
    rw [List.drop_zero, List.nil_append, Int.zero_add] at this
    refine ifs (by omega) (ifs (by omega) ?_)
    simp only [Option.bind_some, hl, c]
    exact this
  · rw [if_neg c]
    exact ifn (by omega) (Ev.pure _)
/-! the document's -/
def sd : List Int → Int
  | [] => 0
  | x :: l => (15 - x) + sd l
theorem sd_hx : ∀ l, sd (hx l) = lk l
  | [] => rfl
  | b :: l => by
    show (15 - b / 16) + ((15 - b % 16) + sd (hx l)) = (30 - b / 16 - b % 16) + lk l
    rw [sd_hx l]
    omega
theorem fin_ref (n : Int) (h0 : 0 ≤ n) (h1 : n ≤ 1000000) : [wrap64 (Int.tdiv n 256), Int.tmod (wrap64 (Int.tdiv n 16)) 16, Int.tmod n 16] = fi n := by
  unfold fi
  rw [Int.tdiv_eq_ediv_of_nonneg h0, Int.tdiv_eq_ediv_of_nonneg h0, Int.tmod_eq_emod_of_nonneg h0, w64 (n := n / 256) (by omega) (by omega), w64 (n := n / 16) (by omega) (by omega), Int.tmod_eq_emod_of_nonneg (by omega)]
theorem lack_ref (n x : Int) (h0 : 0 ≤ n) (h1 : n ≤ 1000000) (h2 : 0 ≤ x) (h3 : x ≤ 15) : wrap64 (wrap64 (n + 15) - x) = n + (15 - x) := by
  rw [w64 (n := n + 15) (by omega) (by omega), w64 (by omega) (by omega)]
  omega
theorem rdig_l1 (l : List Int) (hb : ∀ c ∈ l, 0 ≤ c ∧ c ≤ 15) (hl : l.length ≤ 64) : ∀ (d j : Nat) (n : Int), j + d = l.length → 0 ≤ n → n ≤ 15 * (j : Int) → Sha.Ev (fun k => Jl.l1 k l n (j : Int)) (l ++ fi (n + sd (l.drop j)))
  | 0, j, n, h, h0, h1 => by
    rw [List.drop_of_length_le (by omega)]
    have hlim : l.length + (fi n).length < 17592186044416 := by
      show l.length + 3 < 17592186044416
      omega
    have hf := fin_ref n h0 (by omega)
    refine Ev.succ (G := fun _ => some (l ++ fi n)) (fun k => ?_) ?_
    · simp only [Jl.l1, Option.bind_some, hf]
      rw [if_neg (by omega), if_pos hlim]
    · show Sha.Ev _ (l ++ fi (n + 0))
      rw [Int.add_zero]
      exact Ev.pure _
  | d + 1, j, n, h, h0, h1 => by
    have hj : j < l.length := by omega
    have hc := hb _ (List.getElem_mem hj)
    have e2 := lack_ref n l[j] h0 (by omega) hc.1 hc.2
    rw [List.drop_eq_getElem_cons hj]
    have ih := rdig_l1 l hb hl d (j + 1) (n + (15 - l[j])) (by omega) (by omega) (by omega)
    show Sha.Ev _ (l ++ fi (n + ((15 - l[j]) + sd (l.drop (j + 1)))))
    rw [← Int.add_assoc]
    refine Ev.succ (fun k => ?_) ih
    simp only [Jl.l1, rd_get l j hj, upI j (by omega), e2]
    clear e2
    rw [if_pos (by omega), if_pos (by omega)]
theorem bt_rd (s : ByteArray) (j : Nat) (h : j < s.size) : bt s (j : Int) = (bytesOf s)[j]'(by rw [bytesOf_length]; exact h) := by
  unfold bt bytesOf
  rw [List.getElem_map]
  simp [h]
  rfl
theorem hex3 (b : Int) (h0 : 0 ≤ b) (h1 : b < 256) : wrap64 (Int.tdiv (wrap64 b) 16) = b / 16 ∧ Int.tmod (wrap64 b) 16 = b % 16 := by
  rw [w64 (n := b) (by omega) (by omega), Int.tdiv_eq_ediv_of_nonneg h0, Int.tmod_eq_emod_of_nonneg h0]
  exact ⟨w64 (by omega) (by omega), rfl⟩
theorem rdig_l0 (s : ByteArray) (hs : s.size = 32) : ∀ (d j : Nat) (acc : List Int), j + d = 32 → acc = hx ((bytesOf s).take j) → Sha.Ev (fun k => Jl.l0 k s acc 0 (j : Int)) (Dg s)
  | 0, j, acc, h, ha => by
    have hbl := bytesOf_length s
    rw [List.take_of_length_le (by omega)] at ha
    have hal : acc.length = 64 := by rw [ha, hx_len, hbl, hs]
    have := rdig_l1 acc (by rw [ha]; exact hx_mem _ (Oct.bytesOf_mem s)) (by omega) acc.length 0 0 (by omega) (by omega) (by omega)
    rw [List.drop_zero, Int.zero_add, ha, sd_hx] at this
    refine Ev.succ (fun k => ?_) (show Sha.Ev (fun k => Jl.l1 k (hx (bytesOf s)) 0 0) (Dg s) from this)
    simp only [Jl.l0]
    rw [if_neg (by omega), ha]
  | d + 1, j, acc, h, ha => by
    have hbl := bytesOf_length s
    have hj : j < (bytesOf s).length := by omega
    have hc := Oct.bytesOf_mem s _ (List.getElem_mem hj)
    have e1 := hex3 (bytesOf s)[j] hc.1 hc.2
    have hap : ∀ (u v : List Int), hx (u ++ v) = hx u ++ hx v := by
      intro u v
      induction u with
      | nil => rfl
      | cons b u ih =>
        show b / 16 :: b % 16 :: hx (u ++ v) = b / 16 :: b % 16 :: (hx u ++ hx v)
        rw [ih]
    have ih := rdig_l0 s hs d (j + 1) (acc ++ [(bytesOf s)[j] / 16, (bytesOf s)[j] % 16]) (by omega) (by
      rw [List.take_succ_eq_append_getElem hj, hap, ha]
      rfl)
    have hal : acc.length = 2 * j := by rw [ha, hx_len, List.length_take]; omega
    have hlim : acc.length + [(bytesOf s)[j] / 16, (bytesOf s)[j] % 16].length < 17592186044416 := by simp; omega
    refine Ev.succ (fun k => ?_) ih
    simp only [Jl.l0, Option.bind_some, bt_rd s j (by omega), upI j (by omega), e1.1, e1.2]
    clear e1
    rw [if_pos (by omega), if_pos (by omega), if_pos hlim]
theorem rdigits_ev (s : ByteArray) (hs : s.size = 32) : Sha.Ev (fun k => Jl.f k s) (Dg s) := rdig_l0 s hs 32 0 [] (by omega) rfl
end Go.Proofs.YtdodghifojkclaaGreatDoor.Sha
