/-
  The digest: the document's examples; the input of a tag and texts.
  Conditions: none.
-/
import Derived.Test.YtlnodlhlbaigkaaDoorSha1
import Derived.Test.YtlnodlhlbaigkaaDoorOct
import Derived.Test.YtlnodlhlbaigkaaDoorPPx12
import Derived.Test.YtlnodlhlbaigkaaDoorPPx5
import Derived.Test.YtlnodlhlbaigkaaDoorPPx7
namespace Go.Proofs.YtlnodlhlbaigkaaDoor.Sha
open Go.RowKit Go.Proofs.YtlnodlhlbaigkaaDoor.PP Go.Proofs.YtlnodlhlbaigkaaDoorW.PrintWords Go.Proofs.YtlnodlhlbaigkaaDoorW.PrintLast Go.Proofs.YtlnodlhlbaigkaaDoorW.PrintMore
set_option linter.unusedSimpArgs false
set_option linter.unusedVariables false

/-! "abc" -/
def abc : ByteArray := ⟨#[97, 98, 99]⟩
def abcL : List Int := [97, 98, 99, 128, 0, 0, 0, 0, 0, 0, 0, 0, 0, 0, 0, 0, 0, 0, 0, 0, 0, 0, 0, 0, 0, 0, 0, 0, 0, 0, 0, 0, 0, 0, 0, 0, 0, 0, 0, 0, 0, 0, 0, 0, 0, 0, 0, 0, 0, 0, 0, 0, 0, 0, 0, 0, 0, 0, 0, 0, 0, 0, 0, 24]
def abcH : List Int := [3128432319, 2399260650, 1094795486, 1571693091, 2953011619, 2518121116, 3021012833, 4060091821]
def abcD : List Int := [186, 120, 22, 191, 143, 1, 207, 234, 65, 65, 64, 222, 93, 174, 34, 35, 176, 3, 97, 163, 150, 23, 122, 156, 180, 16, 255, 97, 242, 0, 21, 173]
set_option maxRecDepth 100000 in
theorem abc_block : sha_state_block.f 250 start ((strOfNums abcL).extract 0 64) = some abcH := by kernel_rfl
set_option maxRecDepth 100000 in
theorem abc_l1 (k : Nat) : sha_Sum.l1 (k + 9) start 24 ((bytesOf abc ++ (List.replicate 128 (0 : Int)).drop abc.size).set 3 128) 64 0 = sha_Sum.l2 k start (strOfNums abcL) := by kernel_rfl
set_option maxRecDepth 100000 in
theorem abc_l3 (k : Nat) : sha_Sum.l3 (k + 33) abcH (List.replicate 32 0) 0 = some (strOfNums abcD) := by kernel_rfl
theorem abc_sum : Sha.Ev (fun k => sha_Sum.f k abc) (strOfNums abcD) := by
  have hz : abc.size = 3 := rfl
  have hp : (strOfNums abcL).size = 64 := by rw [strOfNums_size]; rfl
  have hb : Sha.Ev (fun k => sha_state_block.f k start ((strOfNums abcL).extract 0 64)) abcH := Ev.stays (fun k => sha_state_block.mono _ _ k) 250 abc_block
  have h3 : Sha.Ev (fun k => sha_Sum.l3 k abcH (List.replicate 32 0) 0) (strOfNums abcD) := ⟨33, fun k hk => by
    obtain ⟨j, rfl⟩ : ∃ j, k = j + 33 := ⟨k - 33, by omega⟩
    exact abc_l3 j⟩
  have h2b : Sha.Ev (fun k => sha_Sum.l2 k abcH ((strOfNums abcL).extract 64 (strOfNums abcL).size)) (strOfNums abcD) := by
    refine Ev.succ (fun k => ?_) h3
    simp only [sha_Sum.l2]
    rw [if_pos ((size_zero _).2 (by rw [ext_size _ _ _ (by omega) (by omega)]; omega))]
  have h2 : Sha.Ev (fun k => sha_Sum.l2 k start (strOfNums abcL)) (strOfNums abcD) := by
    refine Ev.succ (G := fun k => (sha_state_block.f k start ((strOfNums abcL).extract 0 64)).bind fun t => sha_Sum.l2 k t ((strOfNums abcL).extract 64 (strOfNums abcL).size)) (fun k => ?_) (Ev.bind hb h2b)
    simp only [sha_Sum.l2]
    rw [if_neg (fun z => by have := (size_zero _).1 z; omega), if_pos (by decide), if_pos (by omega)]
  have h1 : Sha.Ev (fun k => sha_Sum.l1 k start 24 ((bytesOf abc ++ (List.replicate 128 (0 : Int)).drop abc.size).set 3 128) 64 0) (strOfNums abcD) := by
    obtain ⟨K, h2⟩ := h2
    refine ⟨K + 9, fun k hk => ?_⟩
    obtain ⟨j, rfl⟩ : ∃ j, k = j + 9 := ⟨k - 9, by omega⟩
    show sha_Sum.l1 (j + 9) _ _ _ _ _ = _
    rw [abc_l1]
    exact h2 j (by omega)
  have hl : (bytesOf abc ++ (List.replicate 128 (0 : Int)).drop abc.size).length = 128 := by rw [List.length_append, bytesOf_length, List.length_drop, List.length_replicate]; omega
  have e0 : (List.replicate 128 (0 : Int)).length = 128 := List.length_replicate
  simp only [sum_open]
  rw [show IntKind.u64.wrap ((IntKind.u64.wrap ((abc.size : Int))) * 8) = 24 by rw [hz]; decide]
  refine Ev.succ (G := fun k => sha_Sum.j1 k abc start 24 (bytesOf abc ++ (List.replicate 128 (0 : Int)).drop abc.size) 64) (fun k => ?_) (Ev.succ (fun k => ?_) h1)
  · rw [sha_Sum.l0, if_neg (by omega), Option.bind_some, if_pos e0, if_pos (by omega), if_pos (by omega), Option.bind_some, if_neg (by omega)]
  · simp only [sha_Sum.j1]
    rw [if_pos hl, if_pos (by omega), if_pos (by omega)]
    rfl
/-! the input -/
def four (n : Nat) : List UInt8 := [UInt8.ofNat (n / 16777216), UInt8.ofNat (n / 65536 % 256), UInt8.ofNat (n / 256 % 256), UInt8.ofNat (n % 256)]
def cat : List ByteArray → List UInt8
  | [] => []
  | s :: l => (four s.size ++ s.data.toList) ++ cat l
theorem nums_four (n : Nat) (h : n < 4294967296) : (strOfNums [(n : Int) / 16777216, (n : Int) / 65536 % 256, (n : Int) / 256 % 256, (n : Int) % 256]).toList = four n := by
  rw [ByteArray.toList_eq]
  show ([(n : Int) / 16777216, (n : Int) / 65536 % 256, (n : Int) / 256 % 256, (n : Int) % 256].map fun z => UInt8.ofNat z.toNat) = four n
  unfold four
  simp only [List.map_cons, List.map_nil]
  rw [show ((n : Int) / 16777216).toNat = n / 16777216 by omega, show ((n : Int) / 65536 % 256).toNat = n / 65536 % 256 by omega, show ((n : Int) / 256 % 256).toNat = n / 256 % 256 by omega, show ((n : Int) % 256).toNat = n % 256 by omega]
theorem long_ev (n : Nat) (h : n < 4294967296) : Sha.Ev (fun k => octets_Long.f k (n : Int)) (strOfNums [(n : Int) / 16777216, (n : Int) / 65536 % 256, (n : Int) / 256 % 256, (n : Int) % 256], true) := by
  refine ⟨7, fun k hk => ?_⟩
  obtain ⟨j, rfl⟩ : ∃ j, k = j + 7 := ⟨k - 7, by omega⟩
  show octets_Long.f (j + 7) (n : Int) = _
  unfold octets_Long.f
  rw [Oct.long_eq, if_neg (by omega)]
  rfl
theorem parts_ev : ∀ (l : List ByteArray), (∀ s ∈ l, s.size < 4294967296) → Sha.Ev (fun k => sha_Input.parts k l) (cat l)
  | [], _ => Ev.pure _
  | s :: l, h => by
    have ih := parts_ev l (fun x hx => h x (List.mem_cons_of_mem _ hx))
    show Sha.Ev (fun k => (octets_Long.f k (s.size : Int)).bind fun n => (sha_Input.parts k l).bind fun r => some ((n.1.toList ++ s.toList) ++ r)) _
    refine Ev.bind (long_ev s.size (h s (by simp))) (Ev.bind ih ?_)
    rw [nums_four _ (h s (by simp)), ByteArray.toList_eq s]
    exact Ev.pure _
theorem input_ev (a : Int) (l : List ByteArray) (h : ∀ s ∈ l, s.size < 4294967296) (hl : (cat l).length ≤ 140737488355327) : Sha.Ev (fun k => sha_Input.f k a l) ⟨([sha_Input.u8 a] ++ cat l).toArray⟩ := by
  unfold sha_Input.f
  refine Ev.bind (parts_ev l h) ?_
  rw [if_pos (by simp; omega)]
  exact Ev.pure _
theorem toList_mk (l : List UInt8) : (⟨l.toArray⟩ : ByteArray).toList = l := by rw [ByteArray.toList_eq]
theorem awake_ev : Sha.Ev (fun k => palaverlaw02_awake.f k) true := by
  unfold palaverlaw02_awake.f
  refine Ev.bind abc_sum ?_
  have e : (strOfNums abcD).toList = [186, 120, 22, 191, 143, 1, 207, 234, 65, 65, 64, 222, 93, 174, 34, 35, 176, 3, 97, 163, 150, 23, 122, 156, 180, 16, 255, 97, 242, 0, 21, 173] := by rw [ByteArray.toList_eq]; decide
  simp only [e, if_true]
  refine Ev.bind (input_ev 7 [(⟨#[97, 98]⟩ : ByteArray), (⟨#[]⟩ : ByteArray)] (by intro s hs; simp only [List.mem_cons, List.not_mem_nil, or_false] at hs; rcases hs with rfl | rfl <;> decide) (by decide)) ?_
  simp only [toList_mk]
  rw [show (([sha_Input.u8 7] ++ cat [(⟨#[97, 98]⟩ : ByteArray), (⟨#[]⟩ : ByteArray)]) == ([7, 0, 0, 0, 2, 97, 98, 0, 0, 0, 0] : List UInt8)) = true by decide]
  exact Ev.pure _
theorem awake_then : Sha.Ev (fun k => (palaverlaw02_awake.f k).bind fun t => some t) true := Ev.bind awake_ev (Ev.pure _)
/-! how many bytes -/
def at_ (l : List ByteArray) (i : Nat) : ByteArray := rdOf ByteArray.empty l (i : Int)
theorem at_mem (l : List ByteArray) (P : ByteArray → Prop) (h : ∀ j, j < l.length → P (at_ l j)) : ∀ s ∈ l, P s := by
  intro s hs
  obtain ⟨j, hj, rfl⟩ := List.getElem_of_mem hs
  have := h j hj
  unfold at_ rdOf at this
  simpa [List.getD, hj] using this
theorem mn_le (a b : Int) : mn a b = if a ≤ b then a else b := by
  unfold mn
  first | rfl | (split <;> split <;> omega) | (by_cases h : a ≤ b <;> simp [h] <;> omega)
theorem size_ev (l : List ByteArray) (hl : l.length ≤ 9223372036854775806) : ∀ (m i : Nat) (acc : Int), i + m = l.length → 0 ≤ acc → acc ≤ 5000 → ∃ n, Sha.Ev (fun k => palaverlaw02_size.l0 k l acc (i : Int)) n ∧ acc ≤ n ∧ (n ≤ 2000 → (∀ j, i ≤ j → j < l.length → (at_ l j).size ≤ 2000) ∧ acc + 4 * (m : Int) ≤ n)
  | 0, i, acc, h, h0, h1 => by
    refine ⟨acc, Ev.succ (G := fun _ => some acc) (fun k => ?_) (Ev.pure _), Int.le_refl _, fun _ => ⟨fun j h2 h3 => by omega, by omega⟩⟩
    simp only [palaverlaw02_size.l0]
    rw [if_neg (by omega)]
  | m + 1, i, acc, h, h0, h1 => by
    by_cases c : acc ≤ 2000
    · have hm : mn ((at_ l i).size : Int) 2000 = if ((at_ l i).size : Int) ≤ 2000 then ((at_ l i).size : Int) else 2000 := mn_le _ _
      have hb : 0 ≤ mn ((at_ l i).size : Int) 2000 ∧ mn ((at_ l i).size : Int) 2000 ≤ 2000 := by rw [hm]; split <;> omega
      obtain ⟨n, hn, hle, hc⟩ := size_ev l hl m (i + 1) (acc + mn ((at_ l i).size : Int) 2000 + 4) (by omega) (by omega) (by omega)
      refine ⟨n, Ev.succ (fun k => ?_) hn, by omega, fun h2 => ?_⟩
      · have e2 : wrap64 ((i : Int) + 1) = ((i + 1 : Nat) : Int) := by rw [w64 (by omega) (by omega)]; omega
        have w1 : wrap64 (acc + mn ((at_ l i).size : Int) 2000) = acc + mn ((at_ l i).size : Int) 2000 := w64 (by omega) (by omega)
        have w2 : wrap64 (acc + mn ((at_ l i).size : Int) 2000 + 4) = acc + mn ((at_ l i).size : Int) 2000 + 4 := w64 (by omega) (by omega)
        unfold at_ at w1 w2 ⊢
        simp only [palaverlaw02_size.l0, e2, w1, w2]
        rw [if_pos (by omega), if_pos c, if_pos (by omega)]
      · obtain ⟨h3, h4⟩ := hc h2
        refine ⟨fun j h5 h6 => ?_, by omega⟩
        by_cases e : j = i
        · subst e
          rw [hm] at hle
          split at hle <;> omega
        · exact h3 j (by omega) h6
    · refine ⟨acc, Ev.succ (G := fun _ => some acc) (fun k => ?_) (Ev.pure _), Int.le_refl _, fun h2 => absurd h2 (by omega)⟩
      simp only [palaverlaw02_size.l0]
      rw [if_pos (by omega), if_neg c]
theorem size_f (l : List ByteArray) (hl : l.length ≤ 9223372036854775806) : ∃ n, Sha.Ev (fun k => palaverlaw02_size.f k l) n ∧ (n ≤ 2000 → (∀ s ∈ l, s.size ≤ 2000) ∧ l.length ≤ 500) := by
  obtain ⟨n, hn, _, hc⟩ := size_ev l hl l.length 0 0 (by omega) (by omega) (by omega)
  refine ⟨n, hn, fun h => ?_⟩
  obtain ⟨h1, h2⟩ := hc h
  exact ⟨at_mem l (fun s => s.size ≤ 2000) (fun j hj => h1 j (Nat.zero_le _) hj), by omega⟩
theorem cat_len : ∀ (l : List ByteArray), (∀ s ∈ l, s.size ≤ 2000) → (cat l).length ≤ l.length * 2004
  | [], _ => Nat.le_refl _
  | s :: l, h => by
    have ih := cat_len l (fun x hx => h x (List.mem_cons_of_mem _ hx))
    have h0 := h s (by simp)
    have hd : s.data.toList.length = s.size := data_length s
    show ((four s.size ++ s.data.toList) ++ cat l).length ≤ _
    rw [List.length_append, List.length_append, hd, List.length_cons]
    have : (four s.size).length = 4 := rfl
    omega
theorem input_small (a : Int) (l : List ByteArray) (h : ∀ s ∈ l, s.size ≤ 2000) (hl : l.length ≤ 500) : Sha.Ev (fun k => sha_Input.f k a l) ⟨([sha_Input.u8 a] ++ cat l).toArray⟩ := by
  have := cat_len l h
  have : l.length * 2004 ≤ 500 * 2004 := Nat.mul_le_mul_right _ hl
  exact input_ev a l (fun s hs => by have := h s hs; omega) (by omega)
/-! unlike ones have unlike inputs -/
theorem u8_inj {a b : Nat} (ha : a < 256) (hb : b < 256) (h : UInt8.ofNat a = UInt8.ofNat b) : a = b := by
  have := congrArg UInt8.toNat h
  rw [UInt8.toNat_ofNat', UInt8.toNat_ofNat'] at this
  omega
theorem four_inj {n m : Nat} (hn : n ≤ 2000) (hm : m ≤ 2000) (h : four n = four m) : n = m := by
  unfold four at h
  simp only [List.cons.injEq, and_true] at h
  have h1 := u8_inj (by omega) (by omega) h.2.2.1
  have h2 := u8_inj (by omega) (by omega) h.2.2.2
  omega
theorem cat_inj : ∀ (l m : List ByteArray), (∀ s ∈ l, s.size ≤ 2000) → (∀ s ∈ m, s.size ≤ 2000) → cat l = cat m → l = m
  | [], [], _, _, _ => rfl
  | [], s :: m, _, _, h => by
    have := congrArg List.length h
    simp [cat, four] at this
  | s :: l, [], _, _, h => by
    have := congrArg List.length h
    simp [cat, four] at this
  | s :: l, t :: m, hl, hm, h => by
    have hs := hl s (by simp)
    have ht := hm t (by simp)
    have e : four s.size ++ (s.data.toList ++ cat l) = four t.size ++ (t.data.toList ++ cat m) := by rw [← List.append_assoc, ← List.append_assoc]; exact h
    obtain ⟨e1, e2⟩ := List.append_inj e rfl
    have hz := four_inj hs ht e1
    obtain ⟨e3, e4⟩ := List.append_inj e2 (by rw [data_length, data_length]; exact hz)
    have e5 : s = t := by
      cases s; cases t
      simp at e3
      rw [e3]
    rw [e5, cat_inj l m (fun x hx => hl x (List.mem_cons_of_mem _ hx)) (fun x hx => hm x (List.mem_cons_of_mem _ hx)) e4]
theorem tag_inj {a b : Int} (ha : 0 ≤ a) (ha2 : a < 256) (hb : 0 ≤ b) (hb2 : b < 256) (h : sha_Input.u8 a = sha_Input.u8 b) : a = b := by
  unfold sha_Input.u8 at h
  have := u8_inj (by omega) (by omega) h
  omega
end Go.Proofs.YtlnodlhlbaigkaaDoor.Sha
