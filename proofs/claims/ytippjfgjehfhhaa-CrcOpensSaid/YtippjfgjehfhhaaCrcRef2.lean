import Derived.Test.YtippjfgjehfhhaaCrcRef
import Derived.Test.YtippjfgjehfhhaaOct3
import Derived.Test.YtippjfgjehfhhaaPPx4
import Derived.Test.YtippjfgjehfhhaaPPx5
/-! The document's Sealed and Open are the plain ones. -/
namespace Go.Proofs.Ytippjfgjehfhhaa.Oct
open Go.RowKit Go.Proofs.Ytippjfgjehfhhaa.PP Go.Proofs.YtippjfgjehfhhaaW.PrintWords Go.Proofs.YtippjfgjehfhhaaW.PrintLast Go.Proofs.YtippjfgjehfhhaaW.PrintMore
set_option linter.unusedSimpArgs false
set_option linter.unusedVariables false

theorem RefSealed_eq (k : Nat) (s : ByteArray) (hk : 2000 * s.size + 300 < k) (hs : s.size ≤ 65535) : palaverref08_Sealed.f k s = some (sealed s) := by
  obtain ⟨m, rfl⟩ : ∃ m, k = m + 12 := ⟨k - 12, by omega⟩
  unfold palaverref08_Sealed.f
  have hb := (sum s).isLt
  have hm := RefMore_eq (m + 12) 0#32 s (by omega) (by omega)
  rw [show (((0#32 : W32).toNat : Nat) : Int) = 0 from rfl] at hm
  rw [ref_four m _ (by omega), if_neg (by omega), Option.bind_some, hm, Option.bind_some]
  show ((palaverref01_Number.f (m + 12) (wrap64 (((sum s).toNat : Int))) 4).bind _) = _
  rw [w64 (n := ((sum s).toNat : Int)) (by omega) (by omega), ref_four m _ (by omega), if_neg (by omega), Option.bind_some]
  rw [if_pos (by show (four _).size + (four _).size ≤ _; rw [four_size, four_size]; omega), if_pos (by show (four _ ++ four _).size + _ ≤ _; rw [app_size, four_size, four_size]; omega)]
  rfl
theorem split_at (s : ByteArray) (m : Nat) (h : m ≤ s.size) : ∃ a b, s = a ++ b ∧ a.size = m := by
  refine ⟨s.extract 0 m, s.extract m s.size, ?_, by simp only [ByteArray.size_extract]; omega⟩
  apply ba_ext
  rw [data_app, ext_data, ext_data, List.drop_zero, size_len, List.take_length, List.take_append_drop]
theorem ext_left (a b : ByteArray) (m : Nat) (h : m = a.size) : (a ++ b).extract 0 m = a := by
  subst h
  apply ba_ext
  rw [ext_data, data_app, List.drop_zero, size_len, List.take_left' rfl]
theorem ext_mid (a b c : ByteArray) (m n : Nat) (hm : m = a.size) (hn : n = a.size + b.size) : (a ++ (b ++ c)).extract m n = b := by
  subst hm hn
  apply ba_ext
  rw [ext_data, data_app, data_app, size_len, size_len, ← List.append_assoc, List.take_left' (by rw [List.length_append]), List.drop_left' rfl]
theorem app_assoc (a b c : ByteArray) : a ++ (b ++ c) = a ++ b ++ c := by
  apply ba_ext
  simp only [data_app, List.append_assoc]
theorem four_bv (b : ByteArray) (h : b.size = 4) : four (bv 0 (bytesOf b)) = b := by
  have hm := bytesOf_mem b
  have hl : (bytesOf b).length = 4 := by rw [bytesOf_length]; exact h
  have e := nums_bytes b
  generalize bytesOf b = l at *
  match l, hl with
  | [c0, c1, c2, c3], _ =>
    have h0 := hm c0 (by simp)
    have h1 := hm c1 (by simp)
    have h2 := hm c2 (by simp)
    have h3 := hm c3 (by simp)
    rw [← e]
    have hv : bv 0 [c0, c1, c2, c3] = ((c0 * 256 + c1) * 256 + c2) * 256 + c3 := by simp [bv]
    rw [hv]
    unfold four
    rw [show (((c0 * 256 + c1) * 256 + c2) * 256 + c3) / 16777216 = c0 by omega, show (((c0 * 256 + c1) * 256 + c2) * 256 + c3) / 65536 % 256 = c1 by omega, show (((c0 * 256 + c1) * 256 + c2) * 256 + c3) / 256 % 256 = c2 by omega, show (((c0 * 256 + c1) * 256 + c2) * 256 + c3) % 256 = c3 by omega]
theorem opened_parts (A B R : ByteArray) (hA : A.size = 4) (hB : B.size = 4) : opened (A ++ (B ++ R)) =
    if bv 0 (bytesOf A) > 65535 ∨ bv 0 (bytesOf A) > R.size then (⟨#[]⟩, 0, false) else
      if ((sum (take R false (bv 0 (bytesOf A))).1).toNat : Int) = bv 0 (bytesOf B) then ((take R false (bv 0 (bytesOf A))).1, 8 + bv 0 (bytesOf A), true) else (⟨#[]⟩, 0, false) := by
  have hn := bv_nonneg (bytesOf A) 0 (by omega) (bytesOf_mem _)
  unfold opened
  rw [take_app A _ 4 (by omega)]
  dsimp only
  rw [take_app B _ 4 (by omega)]
  dsimp only
  by_cases h1 : bv 0 (bytesOf A) > 65535
  · rw [if_pos h1, if_pos (.inl h1)]
  · rw [if_neg h1]
    by_cases h2 : bv 0 (bytesOf A) > R.size
    · rw [take_short _ _ _ h2, if_neg (by simp), if_pos (.inr h2)]
    · rw [take_ok _ _ hn (by omega), if_neg (show ¬ (bv 0 (bytesOf A) > 65535 ∨ bv 0 (bytesOf A) > R.size) by omega)]
      dsimp only
      by_cases h3 : ((sum (R.extract 0 (bv 0 (bytesOf A)).toNat)).toNat : Int) = bv 0 (bytesOf B)
      · rw [if_pos ⟨rfl, h3⟩, if_pos h3]
      · rw [if_neg (fun h => h3 h.2), if_neg h3]
theorem opened_small (s : ByteArray) (h : s.size < 8) : opened s = (⟨#[]⟩, 0, false) := by
  unfold opened
  by_cases h4 : (s.size : Int) < 4
  · rw [take_short _ _ 4 (by omega)]
    simp only [take_bad]
    split <;> simp
  · rw [take_ok _ 4 (by omega) (by omega)]
    dsimp only
    rw [take_short _ _ 4 (by simp only [ByteArray.size_extract]; omega)]
    simp only [take_bad]
    split <;> simp
theorem RefOpen_eq (k : Nat) (s : ByteArray) (hs : s.size ≤ 140737488355328) (hk : 140000000 ≤ k) : palaverref08_Open.f k s = some (opened s) := by
  unfold palaverref08_Open.f
  obtain ⟨k, rfl⟩ : ∃ m, k = m + 1 := ⟨k - 1, by omega⟩
  by_cases h8 : (s.size : Int) < 8
  · rw [if_pos h8, opened_small s (by omega)]
  · rw [if_neg h8, if_pos (by omega), if_pos (by omega)]
    obtain ⟨A, T, rfl, hA⟩ := split_at s 4 (by omega)
    rw [app_size] at hs h8
    obtain ⟨B, R, rfl, hB⟩ := split_at T 4 (by omega)
    rw [app_size] at hs h8
    have hn := bv_nonneg (bytesOf A) 0 (by omega) (bytesOf_mem _)
    rw [ext_left _ _ _ hA.symm, value_eq (k + 1) A (by omega) (by omega), Option.bind_some, opened_parts A B R hA hB, app_size, app_size, w64 (by omega) (by omega)]
    generalize hv : bv 0 (bytesOf A) = n at *
    by_cases h1 : n > 65535
    · rw [if_pos h1, if_pos (.inl h1), palaverref08_Open.j0, if_pos rfl]
    · rw [if_neg h1]
      by_cases h2 : n > R.size
      · rw [decide_eq_true (by omega), if_pos (.inr h2), palaverref08_Open.j0, if_pos rfl]
      · rw [decide_eq_false (by omega), if_neg (show ¬ (n > 65535 ∨ n > R.size) by omega), palaverref08_Open.j0, if_neg (by decide), w64 (n := 8 + n) (by omega) (by omega), if_pos (by omega), if_pos (by rw [app_size, app_size]; omega)]
        obtain ⟨m, rfl⟩ := Int.eq_ofNat_of_zero_le hn
        obtain ⟨C, D, rfl, hC⟩ := split_at R m (by omega)
        rw [take_app C D _ (by omega)]
        dsimp only
        have e1 : (A ++ (B ++ (C ++ D))).extract 8 (8 + (m : Int)).toNat = C := by
          rw [app_assoc A B]
          exact ext_mid (A ++ B) C D _ _ (by rw [app_size]; omega) (by rw [app_size]; omega)
        have e2 : (A ++ (B ++ (C ++ D))).extract 0 (8 + (m : Int)).toNat = A ++ (B ++ C) := by
          rw [app_assoc B, app_assoc A]
          exact ext_left _ _ _ (by rw [app_size, app_size]; omega)
        rw [e1, e2, RefSealed_eq k C (by omega) (by omega), Option.bind_some, if_pos (by omega)]
        have hb := (sum C).isLt
        have hcond : ((sealed C).toList = (A ++ (B ++ C)).toList) ↔ ((sum C).toNat : Int) = bv 0 (bytesOf B) := by
          rw [toList_eq]
          have e3 : sealed C = four C.size ++ (four (sum C).toNat ++ C) := by rw [app_assoc]; rfl
          have e4 : four C.size = A := by rw [hC, ← hv, four_bv A hA]
          rw [e3, e4]
          constructor
          · intro h
            have h5 : bytesOf (A ++ (four (sum C).toNat ++ C)) = bytesOf (A ++ (B ++ C)) := by rw [h]
            rw [bytesOf_app, bytesOf_app, bytesOf_app, bytesOf_app] at h5
            have h6 := List.append_cancel_right (List.append_cancel_left h5)
            rw [← h6, four_val _ (by omega) (by omega)]
          · intro h
            rw [h, four_bv B hB]
        by_cases hc : ((sum C).toNat : Int) = bv 0 (bytesOf B)
        · rw [if_pos (hcond.2 hc), if_pos hc]
        · rw [if_neg (fun h => hc (hcond.1 h)), if_neg hc]
end Go.Proofs.Ytippjfgjehfhhaa.Oct
