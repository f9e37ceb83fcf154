/-
  The document's input of a tag and texts is the program's, and so is its digest.
  Conditions: none.
-/
import Derived.Test.YtdodghifojkclaaGreatDoorSha2
import Derived.Test.YtdodghifojkclaaGreatDoorSha4
import Derived.Test.YtdodghifojkclaaGreatDoorPPx1
namespace Go.Proofs.YtdodghifojkclaaGreatDoor.Sha
open Go.RowKit Go.Proofs.YtdodghifojkclaaGreatDoor.PP Go.Proofs.YtdodghifojkclaaGreatDoorW.PrintWords Go.Proofs.YtdodghifojkclaaGreatDoorW.PrintLast Go.Proofs.YtdodghifojkclaaGreatDoorW.PrintMore
set_option linter.unusedSimpArgs false
set_option linter.unusedVariables false

theorem ifs {p : Prop} [Decidable p] {α : Type} {F G : Nat → Option α} {v : α} (h : p) (hF : Sha.Ev F v) : Sha.Ev (fun k => if p then F k else G k) v := by
  simp only [if_pos h]
  exact hF
theorem ifn {p : Prop} [Decidable p] {α : Type} {F G : Nat → Option α} {v : α} (h : ¬ p) (hG : Sha.Ev G v) : Sha.Ev (fun k => if p then F k else G k) v := by
  simp only [if_neg h]
  exact hG
def fourI (n : Nat) : List Int := [(n : Int) / 16777216, (n : Int) / 65536 % 256, (n : Int) / 256 % 256, (n : Int) % 256]
def catI : List ByteArray → List Int
  | [] => []
  | s :: l => (fourI s.size ++ bytesOf s) ++ catI l
theorem fourI_mem (n : Nat) (h : n < 4294967296) : ∀ c ∈ fourI n, 0 ≤ c ∧ c < 256 := by
  intro c hc
  unfold fourI at hc
  simp only [List.mem_cons, List.not_mem_nil, or_false] at hc
  omega
theorem rnum_ev (n : Nat) (h : n < 4294967296) : Sha.Ev (fun k => Jc.f k (n : Int) 4) (strOfNums (fourI n), true) := by
  refine ⟨12, fun k hk => ?_⟩
  obtain ⟨j, rfl⟩ : ∃ j, k = j + 12 := ⟨k - 12, by omega⟩
  show Jc.f (j + 12) (n : Int) 4 = _
  rw [Oct.ref_four _ _ (by omega), if_neg (by omega)]
  rfl
theorem rinput_ev (l : List ByteArray) (h : ∀ s ∈ l, s.size ≤ 2000) (hl : l.length ≤ 500) : ∀ (d i : Nat) (x : List Int), i + d = l.length → x.length ≤ 1 + i * 2004 → Sha.Ev (fun k => Jh.l0 k l x (i : Int)) (strOfNums (x ++ catI (l.drop i)))
  | 0, i, x, hi, hx => by
    refine Ev.succ (G := fun _ => some (strOfNums x)) (fun k => ?_) ?_
    · simp only [Jh.l0]
      rw [if_neg (by omega)]
    · rw [List.drop_of_length_le (by omega)]
      show Sha.Ev _ (strOfNums (x ++ []))
      rw [List.append_nil]
      exact Ev.pure _
  | d + 1, i, x, hi, hx => by
    have hlt : i < l.length := by omega
    have hs := h (l[i]) (List.getElem_mem hlt)
    have er : rdOf ByteArray.empty l (i : Int) = l[i] := by
      unfold rdOf
      simp [List.getD, hlt]
    have e2 : wrap64 ((i : Int) + 1) = ((i + 1 : Nat) : Int) := by rw [w64 (by omega) (by omega)]; omega
    have hn := rnum_ev (l[i]).size (by omega)
    have hz : (strOfNums (fourI (l[i]).size)).size = 4 := by rw [strOfNums_size]; rfl
    have hb : bytesOf (strOfNums (fourI (l[i]).size)) = fourI (l[i]).size := bytes_nums _ (fourI_mem _ (by omega))
    have h4 : (fourI (l[i]).size).length = 4 := rfl
    have hbl := bytesOf_length (l[i])
    have ih := rinput_ev l h hl d (i + 1) ((x ++ fourI (l[i]).size) ++ bytesOf (l[i])) (by omega) (by rw [List.length_append, List.length_append, h4, hbl]; omega)
    rw [List.drop_eq_getElem_cons hlt]
    show Sha.Ev _ (strOfNums (x ++ ((fourI (l[i]).size ++ bytesOf (l[i])) ++ catI (l.drop (i + 1)))))
    rw [← List.append_assoc, ← List.append_assoc]
    refine Ev.succ (fun k => ?_) (Ev.bind hn ?_) (G := fun k => (Jc.f k ((l[i]).size : Int) 4).bind fun bt => (if x.length + bt.1.size < 140737488355328 then ((some (x ++ bytesOf bt.1 : List Int)).bind fun y => (if y.length + (l[i]).size < 140737488355328 then (Jh.l0 k l (y ++ bytesOf (l[i])) ((i + 1 : Nat) : Int)) else (none))) else (none)))
    · simp only [Jh.l0, e2, er]
      rw [if_pos (by omega), if_pos (by omega)]
    · simp only [hz, hb, Option.bind_some]
      exact ifs (by omega) (ifs (by rw [List.length_append, h4]; omega) ih)
theorem catI_cat : ∀ (l : List ByteArray), (∀ s ∈ l, s.size ≤ 2000) → (catI l).map (fun n => UInt8.ofNat n.toNat) = cat l
  | [], _ => rfl
  | s :: l, h => by
    have hs := h s (by simp)
    have ih := catI_cat l (fun x hx => h x (List.mem_cons_of_mem _ hx))
    show ((fourI s.size ++ bytesOf s) ++ catI l).map _ = (four s.size ++ s.data.toList) ++ cat l
    rw [List.map_append, List.map_append, ih]
    have h4 : (fourI s.size).map (fun n => UInt8.ofNat n.toNat) = four s.size := by
      have := nums_four s.size (by omega)
      rw [ByteArray.toList_eq] at this
      exact this
    have hb : (bytesOf s).map (fun n => UInt8.ofNat n.toNat) = s.data.toList := congrArg (fun z : ByteArray => z.data.toList) (nums_bytes2 s)
    rw [h4, hb]
theorem rinput_small (a : Int) (wa : -9223372036854775808 ≤ a ∧ a ≤ 9223372036854775807) (l : List ByteArray) (h : ∀ s ∈ l, s.size ≤ 2000) (hl : l.length ≤ 500) : Sha.Ev (fun k => Jh.f k a l) ⟨([J2.u8 a] ++ cat l).toArray⟩ := by
  have := rinput_ev l h hl l.length 0 [(Int.tmod (wrap64 ((Int.tmod a 256) + 256)) 256) % 256] (by omega) (by simp)
  have hm : -256 < Int.tmod a 256 ∧ Int.tmod a 256 < 256 := ⟨by have := Int.lt_tmod_of_pos a (b := 256) (by decide); omega, Int.tmod_lt_of_pos a (by decide)⟩
  have e1 : wrap64 (Int.tmod a 256 + 256) = Int.tmod a 256 + 256 := w64 (by omega) (by omega)
  have e0 : (Int.tmod (Int.tmod a 256 + 256) 256) % 256 = a % 256 := by
    rw [Int.tmod_eq_emod_of_nonneg (a := Int.tmod a 256 + 256) (by omega)]
    have := Int.tmod_add_mul_tdiv a 256
    omega
  have e : (strOfNums ([(Int.tmod (wrap64 ((Int.tmod a 256) + 256)) 256) % 256] ++ catI (l.drop 0))) = (⟨([J2.u8 a] ++ cat l).toArray⟩ : ByteArray) := by
    apply Oct.ba_ext
    rw [strOfNums_data, List.map_append, List.drop_zero, catI_cat l h, e1, e0]
    rfl
  rw [e] at this
  exact this
theorem small_size (a : Int) (l : List ByteArray) (h : ∀ s ∈ l, s.size ≤ 2000) (hl : l.length ≤ 500) : (⟨([J2.u8 a] ++ cat l).toArray⟩ : ByteArray).size ≤ 140737488355000 := by
  have := cat_len l h
  have : l.length * 2004 ≤ 500 * 2004 := Nat.mul_le_mul_right _ hl
  rw [← data_length]
  simp
  omega
end Go.Proofs.YtdodghifojkclaaGreatDoor.Sha
