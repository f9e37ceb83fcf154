-- WRITTEN BY a program of this work (wip/ownprint.py), for this seat
import Derived.Test.YtnfbagkeenjifaaGreatDoorPPx0
import Derived.Test.YtnfbagkeenjifaaGreatDoorPPx1
import Derived.Test.YtnfbagkeenjifaaGreatDoorPPx2
namespace Go.Proofs.YtnfbagkeenjifaaGreatDoor.PP
open Go.RowKit Go.Proofs.YtnfbagkeenjifaaGreatDoorW.PrintWords Go.Proofs.YtnfbagkeenjifaaGreatDoorW.PrintLast Go.Proofs.YtnfbagkeenjifaaGreatDoorW.PrintMore
attribute [local go_sem] max2_int min2_int max_two min_two max_three min_three max_four min_four   -- for this text's walks alone
set_option linter.unusedVariables false
set_option linter.unusedSimpArgs false

/-! ### palaverref03_Recover: function 33 -/
mutual
def palaverref03_Recover.l0 : Nat → List ByteArray → List Int → List ByteArray → List ByteArray → Int → Option (ByteArray × List ByteArray)
 | 0, _, _, _, _, _ => none
 | k + 1, x1, x6, x7, x8, x9 => if x9 < 67 then (if 0 ≤ x9 then (if x9 < (x1.length : Int) then ((palaverref01_Number.f k x9 1).bind fun bt400 => (if x9 < (x6.length : Int) then (palaverref03_Recover.l1 k x1 x6 x7 x8 x9 (rdOf ByteArray.empty x1 x9) bt400.1 (rd x6 x9)) else (none))) else (none)) else (none)) else ((palaverref02_Tag.f k 3 x7).bind fun t394 => ((palaverref02_Input.f k 3 x7).bind fun t395 => (if x8.length < 8796093022208 then (some (t394, (x8 ++ [t395]))) else (none))))
def palaverref03_Recover.l1 : Nat → List ByteArray → List Int → List ByteArray → List ByteArray → Int → ByteArray → ByteArray → Int → Option (ByteArray × List ByteArray)
 | 0, _, _, _, _, _, _, _, _ => none
 | k + 1, x1, x6, x7, x8, x9, x10, x11, x13 => if x13 < 15 then ((palaverref02_Input.f k 1 (([x11, x10] : List ByteArray))).bind fun t406 => (if x8.length < 8796093022208 then ((palaverref03_Step.f k x9 x10).bind fun t410 => (palaverref03_Recover.l1 k x1 x6 x7 (x8 ++ [t406]) x9 t410 x11 (wrap64 (x13 + 1)))) else (none))) else (if x7.length < 8796093022208 then (palaverref03_Recover.l0 k x1 x6 (x7 ++ [x10]) x8 (wrap64 (x9 + 1))) else (none))
end
def palaverref03_Recover.f (k : Nat) (a0 : ByteArray) (l1 : List ByteArray) : Option (ByteArray × List ByteArray) := (palaverref03_Digits.f k a0).bind fun t391 => (palaverref03_Recover.l0 k l1 t391 ([] : List ByteArray) ([] : List ByteArray) 0)
theorem palaverref03_Recover.mono_l : ∀ k, (∀ y0 y1 y2 y3 y4, LeO (palaverref03_Recover.l0 k y0 y1 y2 y3 y4) (palaverref03_Recover.l0 (k + 1) y0 y1 y2 y3 y4)) ∧ (∀ y0 y1 y2 y3 y4 y5 y6 y7, LeO (palaverref03_Recover.l1 k y0 y1 y2 y3 y4 y5 y6 y7) (palaverref03_Recover.l1 (k + 1) y0 y1 y2 y3 y4 y5 y6 y7))
 | 0 => ⟨fun _ _ _ _ _ r h => by simp [palaverref03_Recover.l0] at h, fun _ _ _ _ _ _ _ _ r h => by simp [palaverref03_Recover.l1] at h⟩
 | k + 1 => by
  obtain ⟨ih0, ih1⟩ := palaverref03_Recover.mono_l k
  refine ⟨?_, ?_⟩ <;> intros <;> (first | unfold palaverref03_Recover.l0 | unfold palaverref03_Recover.l1) <;> repeat' first
  | (with_reducible exact ih0 _ _ _ _ _)
  | (with_reducible exact ih1 _ _ _ _ _ _ _ _)
  | (with_reducible exact palaverref01_Number.mono _ _ _)
  | (with_reducible exact palaverref02_Input.mono _ _ _)
  | (with_reducible exact palaverref02_Tag.mono _ _ _)
  | (with_reducible exact palaverref03_Digits.mono _ _)
  | (with_reducible exact palaverref03_Step.mono _ _ _)
  | (with_reducible exact LeO.refl _)
  | (with_reducible exact LeO.none _)
  | (with_reducible refine LeO.ite ?_ ?_)
  | (with_reducible refine LeO.bind ?_ (fun _ => ?_))
  | exact ih0 _ _ _ _ _
  | exact ih1 _ _ _ _ _ _ _ _
  | exact palaverref01_Number.mono _ _ _
  | exact palaverref02_Input.mono _ _ _
  | exact palaverref02_Tag.mono _ _ _
  | exact palaverref03_Digits.mono _ _
  | exact palaverref03_Step.mono _ _ _
  | exact LeO.none _
  | refine LeO.ite ?_ ?_
  | refine LeO.bind ?_ (fun _ => ?_)
theorem palaverref03_Recover.mono : ∀ a0 a1 k, LeO (palaverref03_Recover.f k a0 a1) (palaverref03_Recover.f (k + 1) a0 a1) := by
 intro a0 a1 k
 obtain ⟨ih0, ih1⟩ := palaverref03_Recover.mono_l k
 unfold palaverref03_Recover.f
 repeat' first
  | (with_reducible exact ih0 _ _ _ _ _)
  | (with_reducible exact ih1 _ _ _ _ _ _ _ _)
  | (with_reducible exact palaverref01_Number.mono _ _ _)
  | (with_reducible exact palaverref02_Input.mono _ _ _)
  | (with_reducible exact palaverref02_Tag.mono _ _ _)
  | (with_reducible exact palaverref03_Digits.mono _ _)
  | (with_reducible exact palaverref03_Step.mono _ _ _)
  | (with_reducible exact LeO.refl _)
  | (with_reducible exact LeO.none _)
  | (with_reducible refine LeO.ite ?_ ?_)
  | (with_reducible refine LeO.bind ?_ (fun _ => ?_))
  | exact ih0 _ _ _ _ _
  | exact ih1 _ _ _ _ _ _ _ _
  | exact palaverref01_Number.mono _ _ _
  | exact palaverref02_Input.mono _ _ _
  | exact palaverref02_Tag.mono _ _ _
  | exact palaverref03_Digits.mono _ _
  | exact palaverref03_Step.mono _ _ _
  | exact LeO.none _
  | refine LeO.ite ?_ ?_
  | refine LeO.bind ?_ (fun _ => ?_)
set_option maxHeartbeats 64000000 in
set_option maxRecDepth 100000 in
theorem palaverref03_Recover.calls (k : Nat) (a0 : ByteArray) (A1 : Option Addr) (c1 : Nat) (l1 : List ByteArray) (r1 : ByteArray) (r2 : List ByteArray) (w : World) (hr1 : Kd.C Kd.string w A1 l1.length l1) (hc1 : l1.length ≤ c1) (h : palaverref03_Recover.f k a0 l1 = some (r1, r2)) :
 Calls Tryz.prog 33 #[.string a0, .slice A1 l1.length c1] w fun e w' => ∃ v1_ : Value, e = .returned (.tuple #[.string r1, v1_]) ∧ Kd.R Kd.string 9 w' w.heap.size (fun _ => True) v1_ r2 ∧ Below w.heap.size w w' := by
 have HR1 := Aside0.mk hr1
 have HC1 := Aside0.mk hc1
 clear hr1 hc1
 have HB := Aside0.mk (Below.refl w.heap.size w)
 have H : ((palaverref03_Digits.f k a0).bind fun t391 => (palaverref03_Recover.l0 k l1 t391 ([] : List ByteArray) ([] : List ByteArray) 0)) = some (r1, r2) := h
 clear h
 revert H; refine oa_ fun t391 A3 H => ?_
 have H' := Aside0.mk H
 clear H
 go_enter Tryz.func33, Tryz.ntmps33
 go_wp2_with (first | ((with_reducible refine gate_callee (f := 66) rfl ?_); refine gL_ 15 Tryz.func66 #[.string a0] ?_; (with_reducible refine (palaverref03_Digits.calls k a0 t391 _ A3.out).mono ?_); rintro e w4 ⟨v392, rfl, ho0, hb⟩; refine ⟨_, rfl, ?_⟩; have HO393 := Aside0.mk (Kd.R_lower ho0 (below_size bl_)); replace HB := Aside0.mk (below_step bl_ hb); (try clear hb); (try clear hb2); (try clear hk); (try clear hi); (try clear ho0)))
 go_loopg [7, 8, 9] k (fun kq v7 v8 v9 w' => ∃ (x7_1 : List ByteArray) (x8_1 : List ByteArray) (x9_1 : Int), v9 = .int .i64 x9_1 ∧ Aside0 (palaverref03_Recover.l0 kq l1 t391 x7_1 x8_1 x9_1 = some (r1, r2)) ∧ Aside0 (kq ≤ k) ∧ Aside0 (Kd.R (Kd.int .i64) 3 w' w.heap.size (fun _ => True) v392 t391) ∧ Aside0 (Kd.R Kd.string 9 w' w.heap.size (fun k_ => some k_ ≠ (v8 : Value).ownBlock) v7 x7_1) ∧ Aside0 (Kd.R Kd.string 9 w' w.heap.size (fun k_ => some k_ ≠ (v7 : Value).ownBlock) v8 x8_1) ∧ Aside0 (Below w.heap.size w w'))
 case atStart => exact ⟨(([] : List ByteArray)), (([] : List ByteArray)), (0), vq_, H', ⟨Nat.le_refl _⟩, ⟨mv_ HO393.out⟩, ⟨by first | exact Kd.R_nil _ _ _ _ _ | exact Kd.N_nil _ _ _ _ _ | exact Kd.V_nil _ _ _ _ _ | exact Kd.Q_nil _ _ _ _ _ | exact Kd.S_nil _ _ _ _ _⟩, ⟨by first | exact Kd.R_nil _ _ _ _ _ | exact Kd.N_nil _ _ _ _ _ | exact Kd.V_nil _ _ _ _ _ | exact Kd.Q_nil _ _ _ _ _ | exact Kd.S_nil _ _ _ _ _⟩, ⟨bl_⟩⟩
 case round =>
  clear H'
  (try clear c1); (try clear p2); (try clear c3)
  obtain ⟨x7_1, x8_1, x9_1, rfl, HA, HK1, HO_6, HO_7, HO_8, HB⟩ := hrel
  cases gk with
  | zero => exact absurd HA.out (by simp [palaverref03_Recover.l0])
  | succ k1 =>
   have H := HA.out
   clear HA
   simp only [palaverref03_Recover.l0] at H
   by_cases c5 : x9_1 < 67
   ·rw [if_pos c5] at H
    have c5b0 : decide (x9_1 < 67) = true := decide_eq_true c5
    clear c5
    revert H; refine nd_ fun c6 c6b0 => nd_ fun c7 c7b0 H => ?_
    clear c6 c7
    replace H := ob_ H
    obtain ⟨⟨t400, t401⟩, A80, H⟩ := H
    replace H : (if x9_1 < (t391.length : Int) then (palaverref03_Recover.l1 k1 l1 t391 x7_1 x8_1 x9_1 (rdOf ByteArray.empty l1 x9_1) t400 (rd t391 x9_1)) else (none)) = some (r1, r2) := H
    have A8 := Aside0.mk A80
    clear A80
    revert H; refine nd_ fun c9 c9b0 H => ?_
    clear c9
    have H' := Aside0.mk H
    clear H
    have p399 : 0 ≤ (x9_1 : Int) := ae_
    have q399 : x9_1 < (l1.length : Int) := ae_
    obtain ⟨ad399, e399, hx399_0⟩ := Kd.at_string HR1.out x9_1 p399 q399
    cases e399
    replace hx399_0 := (HB.out.cell (World.block_lt_of_cell? w _ hx399_0)).trans hx399_0
    replace p399 := eq_true p399
    replace q399 := eq_true q399
    go_wp2_with (first | ((with_reducible refine gate_callee (f := 36) rfl ?_); refine gL_ 26 Tryz.func36 #[.int .i64 x9_1, .int .i64 1] ?_; (with_reducible refine (palaverref01_Number.calls k1 x9_1 1 t400 t401 _ A8.out).mono ?_); rintro e w10 ⟨rfl, hb⟩; refine ⟨_, rfl, ?_⟩; replace HB := Aside0.mk (below_step bl_ hb); replace HO_8 := Aside0.mk (Kd.R_below (mv_ HO_8.out) hb); replace HO_7 := Aside0.mk (Kd.R_below (mv_ HO_7.out) hb); replace HO_6 := Aside0.mk (Kd.R_below (mv_ HO_6.out) hb); (try clear hb); (try clear hb2); (try clear hk); (try clear hi); obtain ⟨Ao11, co11, eo11⟩ := Kd.R_slice HO_6.out; subst eo11; have p402 : 0 ≤ (x9_1 : Int) := ae_; have q402 : x9_1 < (t391.length : Int) := ae_; obtain ⟨ad402, e402, hx402_0⟩ := Kd.at_int (Kd.R_reads' HO_6.out).2.2 x9_1 p402 q402; cases e402; replace p402 := eq_true p402; replace q402 := eq_true q402))
    go_loopg [8, 10, 13] k1 (fun kq v8 v10 v13 w' => ∃ (x8_2 : List ByteArray) (x10_2 : ByteArray) (x13_2 : Int), v10 = .string x10_2 ∧ v13 = .int .i64 x13_2 ∧ Aside0 (palaverref03_Recover.l1 kq l1 t391 x7_1 x8_2 x9_1 x10_2 t400 x13_2 = some (r1, r2)) ∧ Aside0 (kq ≤ k1) ∧ Aside0 (Kd.R (Kd.int .i64) 3 w' w.heap.size (fun _ => True) (.slice (some ad402) t391.length co11) t391) ∧ Aside0 (Kd.R Kd.string 9 w' w.heap.size (fun k_ => some k_ ≠ (v8 : Value).ownBlock) u7 x7_1) ∧ Aside0 (Kd.R Kd.string 9 w' w.heap.size (fun k_ => some k_ ≠ (u7 : Value).ownBlock) v8 x8_2) ∧ Aside0 (Below w.heap.size w w'))
    case atStart => exact ⟨(x8_1), (rdOf ByteArray.empty l1 x9_1), (rd t391 x9_1), vq_, vq_, H', ⟨Nat.le_refl _⟩, ⟨mv_ HO_6.out⟩, ⟨mv_ HO_7.out⟩, ⟨mv_ HO_8.out⟩, ⟨bl_⟩⟩
    case round =>
     clear H'
     (try clear c1); (try clear p2); (try clear c3); (try clear p3); (try clear q3); (try clear hx3); (try clear p4); (try clear q4); (try clear hx4); (try clear c5); (try clear c5b0); (try clear c6); (try clear c6b0); (try clear p6); (try clear c7); (try clear c7b0); (try clear c9); (try clear c9b0); (try clear hx399_0); (try clear hx402_0); (try clear p2); (try clear p399); (try clear p402); (try clear q399); (try clear q402)
     obtain ⟨x8_2, x10_2, x13_2, rfl, rfl, HA, HK2, HO_6, HO_7, HO_8, HB⟩ := hrel
     cases gk with
     | zero => exact absurd HA.out (by simp [palaverref03_Recover.l1])
     | succ k2 =>
      have H := HA.out
      clear HA
      simp only [palaverref03_Recover.l1] at H
      by_cases c12 : x13_2 < 15
      ·rw [if_pos c12] at H
       have c12b0 : decide (x13_2 < 15) = true := decide_eq_true c12
       clear c12
       generalize e_ : (([t400, x10_2] : List ByteArray) : List ByteArray) = y403 at H
       have Ny403 := Aside0.mk e_.symm
       clear e_
       revert H; refine oa_ fun t406 A13 => nc_ fun c14 H => ?_
       have LMc14 := Aside0.mk c14
       clear c14
       generalize e_ : (x8_2 ++ [t406] : List ByteArray) = y407 at H
       have Ny407 := Aside0.mk e_.symm
       clear e_
       revert H; refine oa_ fun t410 A15 H => ?_
       have H' := Aside0.mk H
       clear H
       go_wp2_with (first | ((with_reducible refine gate_dst (N := 40) rfl ?_); refine Kd.R_lit Kd.string _ 9 ?hg (N := 40) ?hd (xs := ([t400, x10_2] : List ByteArray)) (inner := [.string t400, .string x10_2]) (ok := fun _ => True) (okp := fun _ => True) ?hr ?hp (fun _ hk => hk) trivial (Below.refl _ _) (Nat.le_refl _) (by simp) ?_; (case hd => rfl); (case hg => rfl); (case hr => exact gr_); (case hp => exact (Reps.one (show Kd.M Kd.string _ _ _ t400 [.string t400] from rfl) (Reps.one (show Kd.M Kd.string _ _ _ x10_2 [.string x10_2] from rfl) (Reps.none _ _)))); intro v404 w16 ho17 hb hg_ hnew_; clear hg_ hnew_; (first | rw [← Ny403.out] at ho17 | (simp only [Int.reduceToNat] at ho17; rw [← Ny403.out] at ho17)); have HO405 := Aside0.mk (Kd.R_lower (Kd.R_new' (Kd.R_new' ho17 (Kd.R_lt (mv_ HO_7.out))) (Kd.R_lt (mv_ HO_8.out))) (below_size bl_)); replace HB := Aside0.mk (below_step bl_ hb); replace HO_8 := Aside0.mk (Kd.R_elder' (mv_ HO_8.out) (Kd.R_base ho17) hb); replace HO_7 := Aside0.mk (Kd.R_elder' (mv_ HO_7.out) (Kd.R_base ho17) hb); replace HO_6 := Aside0.mk (Kd.R_below (mv_ HO_6.out) hb); clear hb ho17; obtain ⟨Ao18, co18, eo18⟩ := Kd.R_slice HO405.out; subst eo18) | ((with_reducible refine gate_callee (f := 37) rfl ?_); refine gL_ 41 Tryz.func37 #[.int .i64 1, .slice Ao18 y403.length co18] ?_; (with_reducible refine (palaverref02_Input.calls k2 1 _ _ y403 t406 _ ?side1 ?side2 A13.out).mono ?_); (case side1 => repeat (first | exact (Kd.R_reads' HO405.out).2.2 | (with_reducible refine Kd.C_alloc ?_ _) | (with_reducible refine Kd.C_drewN ?_ _) | (with_reducible refine Kd.C_drew ?_))); (case side2 => exact (Kd.R_reads' HO405.out).2.1); rintro e w19 ⟨rfl, hb⟩; refine ⟨_, rfl, ?_⟩; replace HB := Aside0.mk (below_step bl_ hb); replace HO405 := Aside0.mk (Kd.R_below (mv_ HO405.out) hb); replace HO_8 := Aside0.mk (Kd.R_below (mv_ HO_8.out) hb); replace HO_7 := Aside0.mk (Kd.R_below (mv_ HO_7.out) hb); replace HO_6 := Aside0.mk (Kd.R_below (mv_ HO_6.out) hb); (try clear hb); (try clear hb2); (try clear hk); (try clear hi)) | ((with_reducible refine gate_builtin (b := .append) (xs := #[.tmp 37, .tmp 42]) rfl ?_); at_builtin; refine Kd.R_append Kd.string (w0 := w) w.heap.size rfl (.tmp 37) (.tmp 42) 24 9 (.string ⟨#[]⟩) 16 rfl Tryz.underlying24 info9 rfl (by decide) (by omega) u8 x8_2 t406 [.string t406] (fun k_ => some k_ ≠ (u7 : Value).ownBlock ∧ some k_ ≠ (.slice Ao18 y403.length co18 : Value).ownBlock) (fun _ => False) rfl rfl ?aP (fun _ hk => hk.elim) ?aF ?aO ?aB ?aS ?aL ?_; (case aP => exact rfl); (case aB => exact bl_); (case aF => exact (fun k_ hk => ⟨Kd.fresh' (Kd.R_lt (mv_ HO_7.out)) k_ hk, Kd.fresh' (Kd.R_lt (mv_ HO405.out)) k_ hk⟩)); (case aO => exact (mv_ HO_8.out)); (case aS => exact (below_size bl_)); (case aL => have := LMc14.out; omega); intro v408 w20 ho hb hg hat; rw [← Ny407.out] at ho; have HO409 := Aside0.mk (ho); replace HB := Aside0.mk (hb); replace HO405 := Aside0.mk (Kd.R_after (ok := (fun k_ => some k_ ≠ (u7 : Value).ownBlock)) (by refine mv_ ?_; exact Kd.R_mono HO405.out (fun _ hk => ⟨hk.1.2, hk.2⟩)) hg hat); replace HO_7 := Aside0.mk (Kd.R_after (ok := (fun k_ => some k_ ≠ (.slice Ao18 y403.length co18 : Value).ownBlock)) (by refine mv_ ?_; exact Kd.R_mono HO_7.out (fun _ hk => ⟨hk.2, hk.1⟩)) hg hat); replace HO_6 := Aside0.mk (Kd.R_over' (mv_ HO_6.out) (Kd.R_typed (mv_ HO_8.out)) (by decide) hg); clear HO_8; clear ho hb hg hat) | ((with_reducible refine gate_callee (f := 67) rfl ?_); refine gL_ 46 Tryz.func67 #[.int .i64 x9_1, .string x10_2] ?_; (with_reducible refine (palaverref03_Step.calls k2 x9_1 x10_2 t410 _ A15.out).mono ?_); rintro e w21 ⟨rfl, hb⟩; refine ⟨_, rfl, ?_⟩; replace HB := Aside0.mk (below_step bl_ hb); replace HO409 := Aside0.mk (Kd.R_below (mv_ HO409.out) hb); replace HO405 := Aside0.mk (Kd.R_below (mv_ HO405.out) hb); replace HO_7 := Aside0.mk (Kd.R_below (mv_ HO_7.out) hb); replace HO_6 := Aside0.mk (Kd.R_below (mv_ HO_6.out) hb); (try clear hb); (try clear hb2); (try clear hk); (try clear hi)))
       go_roundg k2
       case measure => have := HK1.out; have := HK2.out; omega
       case rel => exact ⟨(y407), (t410), (wrap64 (x13_2 + 1)), vq_, vq_, H', ⟨by have := HK1.out; have := HK2.out; omega⟩, ⟨mv_ HO_6.out⟩, ⟨by refine mv_ ?_; exact Kd.R_mono HO_7.out (fun _ hk => hk.2)⟩, ⟨by refine mv_ ?_; exact Kd.R_mono HO409.out (fun _ hk => hk.1)⟩, ⟨bl_⟩⟩
      rw [if_neg c12] at H
      have c12b0 : decide (x13_2 < 15) = false := decide_eq_false c12
      clear c12
      revert H; refine nc_ fun c22 H => ?_
      have LMc22 := Aside0.mk c22
      clear c22
      generalize e_ : (x7_1 ++ [x10_2] : List ByteArray) = y411 at H
      have Ny411 := Aside0.mk e_.symm
      clear e_
      have H' := Aside0.mk H
      clear H
      go_wp2_with (first | ((with_reducible refine gate_builtin (b := .append) (xs := #[.tmp 47, .tmp 49]) rfl ?_); at_builtin; refine Kd.R_append Kd.string (w0 := w) w.heap.size rfl (.tmp 47) (.tmp 49) 24 9 (.string ⟨#[]⟩) 16 rfl Tryz.underlying24 info9 rfl (by decide) (by omega) u7 x7_1 x10_2 [.string x10_2] (fun k_ => some k_ ≠ (u8 : Value).ownBlock) (fun _ => False) rfl rfl ?aP (fun _ hk => hk.elim) ?aF ?aO ?aB ?aS ?aL ?_; (case aP => exact rfl); (case aB => exact bl_); (case aF => exact (fun k_ hk => Kd.fresh' (Kd.R_lt (mv_ HO_8.out)) k_ hk)); (case aO => exact (mv_ HO_7.out)); (case aS => exact (below_size bl_)); (case aL => have := LMc22.out; omega); intro v412 w23 ho hb hg hat; rw [← Ny411.out] at ho; have HO413 := Aside0.mk (ho); replace HB := Aside0.mk (hb); replace HO_8 := Aside0.mk (Kd.R_after (ok := (fun _ => True)) (by refine mv_ ?_; exact Kd.R_mono HO_8.out (fun _ hk => ⟨trivial, hk⟩)) hg hat); replace HO_6 := Aside0.mk (Kd.R_over' (mv_ HO_6.out) (Kd.R_typed (mv_ HO_7.out)) (by decide) hg); clear HO_7; clear ho hb hg hat))
      go_roundg k2
      case measure => have := HK1.out; have := HK2.out; omega
      case rel => exact ⟨(y411), (x8_2), (wrap64 (x9_1 + 1)), vq_, H', ⟨by have := HK1.out; have := HK2.out; omega⟩, ⟨mv_ HO_6.out⟩, ⟨mv_ HO413.out⟩, ⟨by refine mv_ ?_; exact Kd.R_mono HO_8.out (fun _ hk => hk.2)⟩, ⟨bl_⟩⟩
   rw [if_neg c5] at H
   have c5b0 : decide (x9_1 < 67) = false := decide_eq_false c5
   clear c5
   revert H; refine oa_ fun t394 A24 => oa_ fun t395 A25 => nc_ fun c26 H => ?_
   have LMc26 := Aside0.mk c26
   clear c26
   generalize e_ : (x8_1 ++ [t395] : List ByteArray) = y396 at H
   have Ny396 := Aside0.mk e_.symm
   clear e_
   simp only [Option.some.injEq, Prod.mk.injEq] at H
   obtain ⟨rfl, rfl⟩ := H
   obtain ⟨Ao27, co27, eo27⟩ := Kd.R_slice HO_7.out
   subst eo27
   go_wp2_with (first | ((with_reducible refine gate_callee (f := 34) rfl ?_); refine gL_ 52 Tryz.func34 #[.int .i64 3, .slice Ao27 x7_1.length co27] ?_; (with_reducible refine (palaverref02_Tag.calls k1 3 _ _ x7_1 t394 _ ?side1 ?side2 A24.out).mono ?_); (case side1 => repeat (first | exact (Kd.R_reads' HO_7.out).2.2 | (with_reducible refine Kd.C_alloc ?_ _) | (with_reducible refine Kd.C_drewN ?_ _) | (with_reducible refine Kd.C_drew ?_))); (case side2 => exact (Kd.R_reads' HO_7.out).2.1); rintro e w28 ⟨rfl, hb⟩; refine ⟨_, rfl, ?_⟩; replace HB := Aside0.mk (below_step bl_ hb); replace HO_8 := Aside0.mk (Kd.R_below (mv_ HO_8.out) hb); replace HO_7 := Aside0.mk (Kd.R_below (mv_ HO_7.out) hb); replace HO_6 := Aside0.mk (Kd.R_below (mv_ HO_6.out) hb); (try clear hb); (try clear hb2); (try clear hk); (try clear hi)) | ((with_reducible refine gate_callee (f := 37) rfl ?_); refine gL_ 55 Tryz.func37 #[.int .i64 3, .slice Ao27 x7_1.length co27] ?_; (with_reducible refine (palaverref02_Input.calls k1 3 _ _ x7_1 t395 _ ?side1 ?side2 A25.out).mono ?_); (case side1 => repeat (first | exact (Kd.R_reads' HO_7.out).2.2 | (with_reducible refine Kd.C_alloc ?_ _) | (with_reducible refine Kd.C_drewN ?_ _) | (with_reducible refine Kd.C_drew ?_))); (case side2 => exact (Kd.R_reads' HO_7.out).2.1); rintro e w29 ⟨rfl, hb⟩; refine ⟨_, rfl, ?_⟩; replace HB := Aside0.mk (below_step bl_ hb); replace HO_8 := Aside0.mk (Kd.R_below (mv_ HO_8.out) hb); replace HO_7 := Aside0.mk (Kd.R_below (mv_ HO_7.out) hb); replace HO_6 := Aside0.mk (Kd.R_below (mv_ HO_6.out) hb); (try clear hb); (try clear hb2); (try clear hk); (try clear hi)) | ((with_reducible refine gate_builtin (b := .append) (xs := #[.tmp 53, .tmp 56]) rfl ?_); at_builtin; refine Kd.R_append Kd.string (w0 := w) w.heap.size rfl (.tmp 53) (.tmp 56) 24 9 (.string ⟨#[]⟩) 16 rfl Tryz.underlying24 info9 rfl (by decide) (by omega) u8 x8_1 t395 [.string t395] (fun k_ => some k_ ≠ (.slice Ao27 x7_1.length co27 : Value).ownBlock) (fun _ => False) rfl rfl ?aP (fun _ hk => hk.elim) ?aF ?aO ?aB ?aS ?aL ?_; (case aP => exact rfl); (case aB => exact bl_); (case aF => exact (fun k_ hk => Kd.fresh' (Kd.R_lt (mv_ HO_7.out)) k_ hk)); (case aO => exact (mv_ HO_8.out)); (case aS => exact (below_size bl_)); (case aL => have := LMc26.out; omega); intro v397 w30 ho hb hg hat; rw [← Ny396.out] at ho; have HO398 := Aside0.mk (ho); replace HB := Aside0.mk (hb); replace HO_7 := Aside0.mk (Kd.R_after (ok := (fun _ => True)) (by refine mv_ ?_; exact Kd.R_mono HO_7.out (fun _ hk => ⟨trivial, hk⟩)) hg hat); replace HO_6 := Aside0.mk (Kd.R_over' (mv_ HO_6.out) (Kd.R_typed (mv_ HO_8.out)) (by decide) hg); clear HO_8; clear ho hb hg hat))
   go_ret2
   exact ⟨_, er_, by refine mv_ ?_; exact Kd.R_mono HO398.out (fun _ hk => trivial), bl_⟩

/-! ### palaverref04_Fold: function 35 -/
mutual
def palaverref04_Fold.j1 : Nat → ByteArray → Int → List ByteArray → Int → Option (ByteArray × List ByteArray × Bool)
 | 0, _, _, _, _ => none
 | k + 1, x0, x1, x2, x9 => if (x2.length : Int) > 4 then (palaverref04_Fold.j2 k x0 x1 x2 true) else (if x1 < 0 then (palaverref04_Fold.j2 k x0 x1 x2 true) else (palaverref04_Fold.j2 k x0 x1 x2 (decide (x1 ≥ x9))))
def palaverref04_Fold.j2 : Nat → ByteArray → Int → List ByteArray → Bool → Option (ByteArray × List ByteArray × Bool)
 | 0, _, _, _, _ => none
 | k + 1, x0, x1, x2, x38 => if x38 = true then (some ((⟨#[]⟩ : ByteArray), ([] : List ByteArray), false)) else (palaverref04_Fold.l1 k x0 x1 x2 ([] : List ByteArray) 0)
def palaverref04_Fold.l1 : Nat → ByteArray → Int → List ByteArray → List ByteArray → Int → Option (ByteArray × List ByteArray × Bool)
 | 0, _, _, _, _, _ => none
 | k + 1, x0, x1, x2, x11, x12 => if x12 < (x2.length : Int) then (if 0 ≤ x12 then (if (Int.tmod x1 2) = 1 then ((palaverref02_Input.f k 4 (([rdOf ByteArray.empty x2 x12, x0] : List ByteArray))).bind fun t419 => (if x11.length < 8796093022208 then ((palaverref02_Tag.f k 4 (([rdOf ByteArray.empty x2 x12, x0] : List ByteArray))).bind fun t426 => (palaverref04_Fold.l1 k t426 (wrap64 (Int.tdiv x1 2)) x2 (x11 ++ [t419]) (wrap64 (x12 + 1)))) else (none))) else ((palaverref02_Input.f k 4 (([x0, rdOf ByteArray.empty x2 x12] : List ByteArray))).bind fun t430 => (if x11.length < 8796093022208 then ((palaverref02_Tag.f k 4 (([x0, rdOf ByteArray.empty x2 x12] : List ByteArray))).bind fun t437 => (palaverref04_Fold.l1 k t437 (wrap64 (Int.tdiv x1 2)) x2 (x11 ++ [t430]) (wrap64 (x12 + 1)))) else (none)))) else (none)) else (some (x0, x11, true))
def palaverref04_Fold.l0 : Nat → ByteArray → Int → List ByteArray → Int → Int → Option (ByteArray × List ByteArray × Bool)
 | 0, _, _, _, _, _ => none
 | k + 1, x0, x1, x2, x9, x10 => if x10 < (x2.length : Int) then (if x10 < 5 then (palaverref04_Fold.l0 k x0 x1 x2 (wrap64 (2 * x9)) (wrap64 (x10 + 1))) else (palaverref04_Fold.j1 k x0 x1 x2 x9)) else (palaverref04_Fold.j1 k x0 x1 x2 x9)
end
def palaverref04_Fold.f (k : Nat) (a0 : ByteArray) (a1 : Int) (l2 : List ByteArray) : Option (ByteArray × List ByteArray × Bool) := palaverref04_Fold.l0 k a0 a1 l2 1 0
theorem palaverref04_Fold.mono_l : ∀ k, (∀ y0 y1 y2 y3, LeO (palaverref04_Fold.j1 k y0 y1 y2 y3) (palaverref04_Fold.j1 (k + 1) y0 y1 y2 y3)) ∧ (∀ y0 y1 y2 y3, LeO (palaverref04_Fold.j2 k y0 y1 y2 y3) (palaverref04_Fold.j2 (k + 1) y0 y1 y2 y3)) ∧ (∀ y0 y1 y2 y3 y4, LeO (palaverref04_Fold.l1 k y0 y1 y2 y3 y4) (palaverref04_Fold.l1 (k + 1) y0 y1 y2 y3 y4)) ∧ (∀ y0 y1 y2 y3 y4, LeO (palaverref04_Fold.l0 k y0 y1 y2 y3 y4) (palaverref04_Fold.l0 (k + 1) y0 y1 y2 y3 y4))
 | 0 => ⟨fun _ _ _ _ r h => by simp [palaverref04_Fold.j1] at h, fun _ _ _ _ r h => by simp [palaverref04_Fold.j2] at h, fun _ _ _ _ _ r h => by simp [palaverref04_Fold.l1] at h, fun _ _ _ _ _ r h => by simp [palaverref04_Fold.l0] at h⟩
 | k + 1 => by
  obtain ⟨ih0, ih1, ih2, ih3⟩ := palaverref04_Fold.mono_l k
  refine ⟨?_, ?_, ?_, ?_⟩ <;> intros <;> (first | unfold palaverref04_Fold.j1 | unfold palaverref04_Fold.j2 | unfold palaverref04_Fold.l1 | unfold palaverref04_Fold.l0) <;> repeat' first
  | (with_reducible exact ih0 _ _ _ _)
  | (with_reducible exact ih1 _ _ _ _)
  | (with_reducible exact ih2 _ _ _ _ _)
  | (with_reducible exact ih3 _ _ _ _ _)
  | (with_reducible exact palaverref02_Input.mono _ _ _)
  | (with_reducible exact palaverref02_Tag.mono _ _ _)
  | (with_reducible exact LeO.refl _)
  | (with_reducible exact LeO.none _)
  | (with_reducible refine LeO.ite ?_ ?_)
  | (with_reducible refine LeO.bind ?_ (fun _ => ?_))
  | exact ih0 _ _ _ _
  | exact ih1 _ _ _ _
  | exact ih2 _ _ _ _ _
  | exact ih3 _ _ _ _ _
  | exact palaverref02_Input.mono _ _ _
  | exact palaverref02_Tag.mono _ _ _
  | exact LeO.none _
  | refine LeO.ite ?_ ?_
  | refine LeO.bind ?_ (fun _ => ?_)
theorem palaverref04_Fold.mono : ∀ a0 a1 a2 k, LeO (palaverref04_Fold.f k a0 a1 a2) (palaverref04_Fold.f (k + 1) a0 a1 a2) := by
 intro a0 a1 a2 k
 obtain ⟨ih0, ih1, ih2, ih3⟩ := palaverref04_Fold.mono_l k
 unfold palaverref04_Fold.f
 repeat' first
  | (with_reducible exact ih0 _ _ _ _)
  | (with_reducible exact ih1 _ _ _ _)
  | (with_reducible exact ih2 _ _ _ _ _)
  | (with_reducible exact ih3 _ _ _ _ _)
  | (with_reducible exact palaverref02_Input.mono _ _ _)
  | (with_reducible exact palaverref02_Tag.mono _ _ _)
  | (with_reducible exact LeO.refl _)
  | (with_reducible exact LeO.none _)
  | (with_reducible refine LeO.ite ?_ ?_)
  | (with_reducible refine LeO.bind ?_ (fun _ => ?_))
  | exact ih0 _ _ _ _
  | exact ih1 _ _ _ _
  | exact ih2 _ _ _ _ _
  | exact ih3 _ _ _ _ _
  | exact palaverref02_Input.mono _ _ _
  | exact palaverref02_Tag.mono _ _ _
  | exact LeO.none _
  | refine LeO.ite ?_ ?_
  | refine LeO.bind ?_ (fun _ => ?_)
set_option maxHeartbeats 64000000 in
set_option maxRecDepth 100000 in
theorem palaverref04_Fold.calls (k : Nat) (a0 : ByteArray) (a1 : Int) (A2 : Option Addr) (c2 : Nat) (l2 : List ByteArray) (r1 : ByteArray) (r2 : List ByteArray) (r3 : Bool) (w : World) (hr2 : Kd.C Kd.string w A2 l2.length l2) (hc2 : l2.length ≤ c2) (h : palaverref04_Fold.f k a0 a1 l2 = some (r1, r2, r3)) :
 Calls Tryz.prog 35 #[.string a0, .int .i64 a1, .slice A2 l2.length c2] w fun e w' => ∃ v1_ : Value, e = .returned (.tuple #[.string r1, v1_, .bool r3]) ∧ Kd.R Kd.string 9 w' w.heap.size (fun _ => True) v1_ r2 ∧ Below w.heap.size w w' := by
 have HR2 := Aside0.mk hr2
 have HC2 := Aside0.mk hc2
 clear hr2 hc2
 have HB := Aside0.mk (Below.refl w.heap.size w)
 have H : (palaverref04_Fold.l0 k a0 a1 l2 1 0) = some (r1, r2, r3) := h
 clear h
 have HC4 := Aside0.mk H
 clear H
 go_enter Tryz.func35, Tryz.ntmps35
 go_upto_block 0 with (fail)
 repeat (go_quiet (fail); go_upto_block 0 with (fail))
 go_cut [9] (fun v9 wc => ∃ (kq : Nat) (x9_3 : Int), v9 = .int .i64 x9_3 ∧ Aside0 (palaverref04_Fold.j1 kq a0 a1 l2 x9_3 = some (r1, r2, r3)) ∧ Aside0 (kq ≤ k) ∧ Aside0 (Below w.heap.size w wc))
 case first =>
  have H := HC4.out
  clear HC4
  have H' := Aside0.mk H
  clear H
  go_wp2
  repeat (go_quiet (fail); try go_wp2)
  go_loopg [9, 10] k (fun kq v9 v10 w' => ∃ (x9_1 : Int) (x10_1 : Int), v9 = .int .i64 x9_1 ∧ v10 = .int .i64 x10_1 ∧ Aside0 (palaverref04_Fold.l0 kq a0 a1 l2 x9_1 x10_1 = some (r1, r2, r3)) ∧ Aside0 (kq ≤ k) ∧ Aside0 (Below w.heap.size w w'))
  case atStart => exact ⟨(1), (0), vq_, vq_, H', ⟨Nat.le_refl _⟩, ⟨bl_⟩⟩
  case round =>
   clear H'
   (try clear c2); (try clear p2); (try clear c3)
   obtain ⟨x9_1, x10_1, rfl, rfl, HA, HK1, HB⟩ := hrel
   cases gk with
   | zero => exact absurd HA.out (by simp [palaverref04_Fold.l0])
   | succ k1 =>
    have H := HA.out
    clear HA
    simp only [palaverref04_Fold.l0] at H
    by_cases c5 : x10_1 < (l2.length : Int)
    ·rw [if_pos c5] at H
     have c5b0 : decide (x10_1 < (l2.length : Int)) = true := decide_eq_true c5
     clear c5
     (first | rw [c5b0] | (simp only [i64_w, i32_w]; rw [c5b0]) | skip)
     by_cases c6 : x10_1 < 5
     ·rw [if_pos c6] at H
      have c6b0 : decide (x10_1 < 5) = true := decide_eq_true c6
      clear c6
      have H' := Aside0.mk H
      clear H
      go_wp2
      repeat (go_quiet (fail); try go_wp2)
      go_roundg k1
      case measure => have := HK1.out; omega
      case rel => exact ⟨(wrap64 (2 * x9_1)), (wrap64 (x10_1 + 1)), vq_, vq_, H', ⟨by have := HK1.out; omega⟩, ⟨bl_⟩⟩
     rw [if_neg c6] at H
     have c6b0 : decide (x10_1 < 5) = false := decide_eq_false c6
     clear c6
     have H' := Aside0.mk H
     clear H
     go_wp2
     repeat (go_quiet (fail); try go_wp2)
     go_meet
     case rel => exact ⟨_, (x9_1), vq_, H', ⟨by have := HK1.out; first | omega | exact Nat.le_refl _⟩, ⟨bl_⟩⟩
    rw [if_neg c5] at H
    have c5b0 : decide (x10_1 < (l2.length : Int)) = false := decide_eq_false c5
    clear c5
    (first | rw [c5b0] | (simp only [i64_w, i32_w]; rw [c5b0]) | skip)
    have H' := Aside0.mk H
    clear H
    go_wp2
    repeat (go_quiet (fail); try go_wp2)
    go_meet
    case rel => exact ⟨_, (x9_1), vq_, H', ⟨by have := HK1.out; first | omega | exact Nat.le_refl _⟩, ⟨bl_⟩⟩
 case rest =>
  clear HC4
  (try clear c2); (try clear p2); (try clear c3); (try clear c5); (try clear c5b0); (try clear c6); (try clear c6b0); (try clear p6); (try clear p2)
  obtain ⟨kq, x9_3, rfl, HA, HJ3, HB⟩ := hcut
  cases kq with
  | zero => exact absurd HA.out (by simp [palaverref04_Fold.j1])
  | succ kj3 =>
   have H := HA.out
   clear HA
   simp only [palaverref04_Fold.j1] at H
   have HC7 := Aside0.mk H
   clear H
   go_upto_region 6 with (fail)
   repeat (go_quiet (fail); go_upto_region 6 with (fail))
   go_cut [38] (fun v38 wc => ∃ (kq : Nat) (x38_6 : Bool), v38 = .bool x38_6 ∧ Aside0 (palaverref04_Fold.j2 kq a0 a1 l2 x38_6 = some (r1, r2, r3)) ∧ Aside0 (kq ≤ kj3) ∧ Aside0 (Below w.heap.size w wc))
   case first =>
    have H := HC7.out
    clear HC7
    by_cases c8 : (l2.length : Int) > 4
    ·rw [if_pos c8] at H
     have c8b0 : decide (4 < (l2.length : Int)) = true := decide_eq_true c8
     have c8b1 : decide (4 < l2.length) = true := decide_eq_true (by omega)
     clear c8
     (first | rw [c8b0] | (simp only [i64_w, i32_w]; rw [c8b0]) | skip)
     have H' := Aside0.mk H
     clear H
     go_wp2
     repeat (go_quiet (fail); try go_wp2)
     go_meet
     case rel => exact ⟨_, (true), vq_, H', ⟨by have := HJ3.out; first | omega | exact Nat.le_refl _⟩, ⟨bl_⟩⟩
    rw [if_neg c8] at H
    have c8b0 : decide (4 < (l2.length : Int)) = false := decide_eq_false c8
    have c8b1 : decide (4 < l2.length) = false := decide_eq_false (by omega)
    clear c8
    (first | rw [c8b0] | (simp only [i64_w, i32_w]; rw [c8b0]) | skip)
    by_cases c9 : a1 < 0
    ·rw [if_pos c9] at H
     have c9b0 : decide (a1 < 0) = true := decide_eq_true c9
     clear c9
     have H' := Aside0.mk H
     clear H
     go_wp2
     repeat (go_quiet (fail); try go_wp2)
     go_meet
     case rel => exact ⟨_, (true), vq_, H', ⟨by have := HJ3.out; first | omega | exact Nat.le_refl _⟩, ⟨bl_⟩⟩
    rw [if_neg c9] at H
    have c9b0 : decide (a1 < 0) = false := decide_eq_false c9
    clear c9
    have H' := Aside0.mk H
    clear H
    go_wp2
    repeat (go_quiet (fail); try go_wp2)
    go_meet
    case rel => exact ⟨_, (decide (a1 ≥ x9_3)), vq_, H', ⟨by have := HJ3.out; first | omega | exact Nat.le_refl _⟩, ⟨bl_⟩⟩
   case rest =>
    clear HC7
    (try clear c2); (try clear p2); (try clear c3); (try clear c5); (try clear c5b0); (try clear c6); (try clear c6b0); (try clear p6); (try clear c8); (try clear c8b0); (try clear c8b1); (try clear c9); (try clear c9b0); (try clear p2); (try clear p6)
    obtain ⟨kq, x38_6, rfl, HA, HJ6, HB⟩ := hcut
    cases kq with
    | zero => exact absurd HA.out (by simp [palaverref04_Fold.j2])
    | succ kj6 =>
     have H := HA.out
     clear HA
     simp only [palaverref04_Fold.j2] at H
     by_cases c10 : x38_6 = true
     ·subst c10
      have H1 : (some ((⟨#[]⟩ : ByteArray), ([] : List ByteArray), false)) = some (r1, r2, r3) := by rw [if_pos rfl] at H; exact H
      clear H
      have H := H1
      clear H1
      simp only [Option.some.injEq, Prod.mk.injEq] at H
      obtain ⟨rfl, rfl, rfl⟩ := H
      go_wp2
      repeat (go_quiet (fail); try go_wp2)
      go_ret3
      exact ⟨_, er_, by first | exact Kd.R_nil _ _ _ _ _ | exact Kd.N_nil _ _ _ _ _ | exact Kd.V_nil _ _ _ _ _ | exact Kd.Q_nil _ _ _ _ _ | exact Kd.S_nil _ _ _ _ _, bl_⟩
     replace c10 := Bool.eq_false_iff.mpr c10
     subst c10
     have H1 : (palaverref04_Fold.l1 kj6 a0 a1 l2 ([] : List ByteArray) 0) = some (r1, r2, r3) := by rw [if_neg (show ¬ (false = true) by decide)] at H; exact H
     clear H
     have H := H1
     clear H1
     have H' := Aside0.mk H
     clear H
     go_wp2
     repeat (go_quiet (fail); try go_wp2)
     go_loopg [0, 1, 11, 12] kj6 (fun kq v0 v1 v11 v12 w' => ∃ (x0_3 : ByteArray) (x1_3 : Int) (x11_3 : List ByteArray) (x12_3 : Int), v0 = .string x0_3 ∧ v1 = .int .i64 x1_3 ∧ v12 = .int .i64 x12_3 ∧ Aside0 (palaverref04_Fold.l1 kq x0_3 x1_3 l2 x11_3 x12_3 = some (r1, r2, r3)) ∧ Aside0 (kq ≤ kj6) ∧ Aside0 (Kd.R Kd.string 9 w' w.heap.size (fun _ => True) v11 x11_3) ∧ Aside0 (Below w.heap.size w w'))
     case atStart => exact ⟨(a0), (a1), (([] : List ByteArray)), (0), vq_, vq_, vq_, H', ⟨Nat.le_refl _⟩, ⟨by first | exact Kd.R_nil _ _ _ _ _ | exact Kd.N_nil _ _ _ _ _ | exact Kd.V_nil _ _ _ _ _ | exact Kd.Q_nil _ _ _ _ _ | exact Kd.S_nil _ _ _ _ _⟩, ⟨bl_⟩⟩
     case round =>
      clear H'
      (try clear c1); (try clear c2); (try clear p2); (try clear c3); (try clear c5); (try clear c5b0); (try clear c6); (try clear c6b0); (try clear p6); (try clear c8); (try clear c8b0); (try clear c8b1); (try clear c9); (try clear c9b0); (try clear c10); (try clear p2); (try clear p6)
      obtain ⟨x0_3, x1_3, x11_3, x12_3, rfl, rfl, rfl, HA, HK3, HO_11, HB⟩ := hrel
      cases gk with
      | zero => exact absurd HA.out (by simp [palaverref04_Fold.l1])
      | succ k3 =>
       have H := HA.out
       clear HA
       simp only [palaverref04_Fold.l1] at H
       by_cases c11 : x12_3 < (l2.length : Int)
       ·rw [if_pos c11] at H
        have c11b0 : decide (x12_3 < (l2.length : Int)) = true := decide_eq_true c11
        clear c11
        revert H; refine nd_ fun c12 c12b0 H => ?_
        clear c12
        by_cases c13 : (Int.tmod x1_3 2) = 1
        ·rw [if_pos c13] at H
         have c13b0 : ((Int.tmod x1_3 2) == 1) = true := beq_iff_eq.mpr c13
         have c13b1 : ((Int.tmod x1_3 2) != 1) = false := bne_eq_false_iff_eq.mpr c13
         clear c13
         obtain ⟨y416, hy416⟩ : ∃ y_ : List ByteArray, y_ = (([rdOf ByteArray.empty l2 x12_3, x0_3] : List ByteArray)) := ⟨_, rfl⟩
         replace H : ((palaverref02_Input.f k3 4 y416).bind fun t419 => (if x11_3.length < 8796093022208 then ((palaverref02_Tag.f k3 4 (([rdOf ByteArray.empty l2 x12_3, x0_3] : List ByteArray))).bind fun t426 => (palaverref04_Fold.l1 k3 t426 (wrap64 (Int.tdiv x1_3 2)) l2 (x11_3 ++ [t419]) (wrap64 (x12_3 + 1)))) else (none))) = some (r1, r2, r3) := by first | (rw [hy416]; with_reducible exact H) | (have H2_ := (Option.bind_some _ _).symm.trans H; rw [hy416]; with_reducible exact H2_) | (have H2_ := (Option.bind_some _ _).symm.trans H; with_reducible exact H2_) | with_reducible exact H | (rw [hy416]; exact H) | exact H
         have Ny416 := Aside0.mk hy416
         clear hy416
         revert H; refine oa_ fun t419 A14 => nc_ fun c15 H => ?_
         have LMc15 := Aside0.mk c15
         clear c15
         generalize e_ : (x11_3 ++ [t419] : List ByteArray) = y420 at H
         have Ny420 := Aside0.mk e_.symm
         clear e_
         generalize e_ : (([rdOf ByteArray.empty l2 x12_3, x0_3] : List ByteArray) : List ByteArray) = y423 at H
         have Ny423 := Aside0.mk e_.symm
         clear e_
         revert H; refine oa_ fun t426 A16 H => ?_
         have H' := Aside0.mk H
         clear H
         have p414 : 0 ≤ (x12_3 : Int) := ae_
         have q414 : x12_3 < (l2.length : Int) := ae_
         obtain ⟨ad414, e414, hx414_0⟩ := Kd.at_string HR2.out x12_3 p414 q414
         cases e414
         replace hx414_0 := (HB.out.cell (World.block_lt_of_cell? w _ hx414_0)).trans hx414_0
         replace p414 := eq_true p414
         replace q414 := eq_true q414
         have p415 : 0 ≤ (x12_3 : Int) := ae_
         have q415 : x12_3 < (l2.length : Int) := ae_
         obtain ⟨ad415, e415, hx415_0⟩ := Kd.at_string HR2.out x12_3 p415 q415
         obtain rfl : ad414 = ad415 := (by injection e415)
         replace hx415_0 := (HB.out.cell (World.block_lt_of_cell? w _ hx415_0)).trans hx415_0
         replace p415 := eq_true p415
         replace q415 := eq_true q415
         go_wp2_with (first | ((with_reducible refine gate_dst (N := 61) rfl ?_); refine Kd.R_lit Kd.string _ 9 ?hg (N := 61) ?hd (xs := ([rdOf ByteArray.empty l2 x12_3, x0_3] : List ByteArray)) (inner := [.string (rdOf ByteArray.empty l2 x12_3), .string x0_3]) (ok := fun _ => True) (okp := fun _ => True) ?hr ?hp (fun _ hk => hk) trivial (Below.refl _ _) (Nat.le_refl _) (by simp) ?_; (case hd => rfl); (case hg => rfl); (case hr => exact gr_); (case hp => exact (Reps.one (show Kd.M Kd.string _ _ _ (rdOf ByteArray.empty l2 x12_3) [.string (rdOf ByteArray.empty l2 x12_3)] from rfl) (Reps.one (show Kd.M Kd.string _ _ _ x0_3 [.string x0_3] from rfl) (Reps.none _ _)))); intro v417 w17 ho18 hb hg_ hnew_; clear hg_ hnew_; (first | rw [← Ny416.out] at ho18 | (simp only [Int.reduceToNat] at ho18; rw [← Ny416.out] at ho18)); have HO418 := Aside0.mk (Kd.R_lower (Kd.R_new' ho18 (Kd.R_lt (mv_ HO_11.out))) (below_size bl_)); replace HB := Aside0.mk (below_step bl_ hb); replace HO_11 := Aside0.mk (Kd.R_elder' (mv_ HO_11.out) (Kd.R_base ho18) hb); clear hb ho18; obtain ⟨Ao19, co19, eo19⟩ := Kd.R_slice HO418.out; subst eo19) | (go_at_call 37; (with_reducible refine (palaverref02_Input.calls k3 4 _ _ y416 t419 _ ?side1 ?side2 A14.out).mono ?_); (case side1 => repeat (first | exact (Kd.R_reads' HO418.out).2.2 | (with_reducible refine Kd.C_alloc ?_ _) | (with_reducible refine Kd.C_drewN ?_ _) | (with_reducible refine Kd.C_drew ?_))); (case side2 => exact (Kd.R_reads' HO418.out).2.1); rintro e w20 ⟨rfl, hb⟩; replace HB := Aside0.mk (below_step bl_ hb); replace HO418 := Aside0.mk (Kd.R_below (mv_ HO418.out) hb); replace HO_11 := Aside0.mk (Kd.R_below (mv_ HO_11.out) hb); (try clear hb); (try clear hb2); (try clear hk); (try clear hi)) | ((with_reducible refine gate_builtin (b := .append) (xs := #[.tmp 58, .tmp 63]) rfl ?_); at_builtin; refine Kd.R_append Kd.string (w0 := w) w.heap.size rfl (.tmp 58) (.tmp 63) 24 9 (.string ⟨#[]⟩) 16 rfl Tryz.underlying24 info9 rfl (by decide) (by omega) u11 x11_3 t419 [.string t419] (fun k_ => some k_ ≠ (.slice Ao19 y416.length co19 : Value).ownBlock) (fun _ => False) rfl rfl ?aP (fun _ hk => hk.elim) ?aF ?aO ?aB ?aS ?aL ?_; (case aP => exact rfl); (case aB => exact bl_); (case aF => exact (fun k_ hk => Kd.fresh' (Kd.R_lt (mv_ HO418.out)) k_ hk)); (case aO => exact (by refine mv_ ?_; exact Kd.R_mono HO_11.out (fun _ hk => hk.2))); (case aS => exact (below_size bl_)); (case aL => have := LMc15.out; omega); intro v421 w21 ho hb hg hat; rw [← Ny420.out] at ho; have HO422 := Aside0.mk (ho); replace HB := Aside0.mk (hb); replace HO418 := Aside0.mk (Kd.R_after (ok := (fun _ => True)) (mv_ HO418.out) hg hat); clear HO_11; clear ho hb hg hat) | ((with_reducible refine gate_dst (N := 67) rfl ?_); refine Kd.R_lit Kd.string _ 9 ?hg (N := 67) ?hd (xs := ([rdOf ByteArray.empty l2 x12_3, x0_3] : List ByteArray)) (inner := [.string (rdOf ByteArray.empty l2 x12_3), .string x0_3]) (ok := fun _ => True) (okp := fun _ => True) ?hr ?hp (fun _ hk => hk) trivial (Below.refl _ _) (Nat.le_refl _) (by simp) ?_; (case hd => rfl); (case hg => rfl); (case hr => exact gr_); (case hp => exact (Reps.one (show Kd.M Kd.string _ _ _ (rdOf ByteArray.empty l2 x12_3) [.string (rdOf ByteArray.empty l2 x12_3)] from rfl) (Reps.one (show Kd.M Kd.string _ _ _ x0_3 [.string x0_3] from rfl) (Reps.none _ _)))); intro v424 w22 ho23 hb hg_ hnew_; clear hg_ hnew_; (first | rw [← Ny423.out] at ho23 | (simp only [Int.reduceToNat] at ho23; rw [← Ny423.out] at ho23)); have HO425 := Aside0.mk (Kd.R_lower (Kd.R_new' (Kd.R_new' ho23 (Kd.R_lt (mv_ HO418.out))) (Kd.R_lt (mv_ HO422.out))) (below_size bl_)); replace HB := Aside0.mk (below_step bl_ hb); replace HO422 := Aside0.mk (Kd.R_elder' (mv_ HO422.out) (Kd.R_base ho23) hb); replace HO418 := Aside0.mk (Kd.R_elder' (mv_ HO418.out) (Kd.R_base ho23) hb); clear hb ho23; obtain ⟨Ao24, co24, eo24⟩ := Kd.R_slice HO425.out; subst eo24) | (go_at_call 34; (with_reducible refine (palaverref02_Tag.calls k3 4 _ _ y423 t426 _ ?side1 ?side2 A16.out).mono ?_); (case side1 => repeat (first | exact (Kd.R_reads' HO425.out).2.2 | (with_reducible refine Kd.C_alloc ?_ _) | (with_reducible refine Kd.C_drewN ?_ _) | (with_reducible refine Kd.C_drew ?_))); (case side2 => exact (Kd.R_reads' HO425.out).2.1); rintro e w25 ⟨rfl, hb⟩; replace HB := Aside0.mk (below_step bl_ hb); replace HO425 := Aside0.mk (Kd.R_below (mv_ HO425.out) hb); replace HO422 := Aside0.mk (Kd.R_below (mv_ HO422.out) hb); replace HO418 := Aside0.mk (Kd.R_below (mv_ HO418.out) hb); (try clear hb); (try clear hb2); (try clear hk); (try clear hi)))
         repeat (go_quiet (first | ((with_reducible refine gate_dst (N := 61) rfl ?_); refine Kd.R_lit Kd.string _ 9 ?hg (N := 61) ?hd (xs := ([rdOf ByteArray.empty l2 x12_3, x0_3] : List ByteArray)) (inner := [.string (rdOf ByteArray.empty l2 x12_3), .string x0_3]) (ok := fun _ => True) (okp := fun _ => True) ?hr ?hp (fun _ hk => hk) trivial (Below.refl _ _) (Nat.le_refl _) (by simp) ?_; (case hd => rfl); (case hg => rfl); (case hr => exact gr_); (case hp => exact (Reps.one (show Kd.M Kd.string _ _ _ (rdOf ByteArray.empty l2 x12_3) [.string (rdOf ByteArray.empty l2 x12_3)] from rfl) (Reps.one (show Kd.M Kd.string _ _ _ x0_3 [.string x0_3] from rfl) (Reps.none _ _)))); intro v417 w17 ho18 hb hg_ hnew_; clear hg_ hnew_; (first | rw [← Ny416.out] at ho18 | (simp only [Int.reduceToNat] at ho18; rw [← Ny416.out] at ho18)); have HO418 := Aside0.mk (Kd.R_lower (Kd.R_new' ho18 (Kd.R_lt (mv_ HO_11.out))) (below_size bl_)); replace HB := Aside0.mk (below_step bl_ hb); replace HO_11 := Aside0.mk (Kd.R_elder' (mv_ HO_11.out) (Kd.R_base ho18) hb); clear hb ho18; obtain ⟨Ao19, co19, eo19⟩ := Kd.R_slice HO418.out; subst eo19) | (go_at_call 37; (with_reducible refine (palaverref02_Input.calls k3 4 _ _ y416 t419 _ ?side1 ?side2 A14.out).mono ?_); (case side1 => repeat (first | exact (Kd.R_reads' HO418.out).2.2 | (with_reducible refine Kd.C_alloc ?_ _) | (with_reducible refine Kd.C_drewN ?_ _) | (with_reducible refine Kd.C_drew ?_))); (case side2 => exact (Kd.R_reads' HO418.out).2.1); rintro e w20 ⟨rfl, hb⟩; replace HB := Aside0.mk (below_step bl_ hb); replace HO418 := Aside0.mk (Kd.R_below (mv_ HO418.out) hb); replace HO_11 := Aside0.mk (Kd.R_below (mv_ HO_11.out) hb); (try clear hb); (try clear hb2); (try clear hk); (try clear hi)) | ((with_reducible refine gate_builtin (b := .append) (xs := #[.tmp 58, .tmp 63]) rfl ?_); at_builtin; refine Kd.R_append Kd.string (w0 := w) w.heap.size rfl (.tmp 58) (.tmp 63) 24 9 (.string ⟨#[]⟩) 16 rfl Tryz.underlying24 info9 rfl (by decide) (by omega) u11 x11_3 t419 [.string t419] (fun k_ => some k_ ≠ (.slice Ao19 y416.length co19 : Value).ownBlock) (fun _ => False) rfl rfl ?aP (fun _ hk => hk.elim) ?aF ?aO ?aB ?aS ?aL ?_; (case aP => exact rfl); (case aB => exact bl_); (case aF => exact (fun k_ hk => Kd.fresh' (Kd.R_lt (mv_ HO418.out)) k_ hk)); (case aO => exact (by refine mv_ ?_; exact Kd.R_mono HO_11.out (fun _ hk => hk.2))); (case aS => exact (below_size bl_)); (case aL => have := LMc15.out; omega); intro v421 w21 ho hb hg hat; rw [← Ny420.out] at ho; have HO422 := Aside0.mk (ho); replace HB := Aside0.mk (hb); replace HO418 := Aside0.mk (Kd.R_after (ok := (fun _ => True)) (mv_ HO418.out) hg hat); clear HO_11; clear ho hb hg hat) | ((with_reducible refine gate_dst (N := 67) rfl ?_); refine Kd.R_lit Kd.string _ 9 ?hg (N := 67) ?hd (xs := ([rdOf ByteArray.empty l2 x12_3, x0_3] : List ByteArray)) (inner := [.string (rdOf ByteArray.empty l2 x12_3), .string x0_3]) (ok := fun _ => True) (okp := fun _ => True) ?hr ?hp (fun _ hk => hk) trivial (Below.refl _ _) (Nat.le_refl _) (by simp) ?_; (case hd => rfl); (case hg => rfl); (case hr => exact gr_); (case hp => exact (Reps.one (show Kd.M Kd.string _ _ _ (rdOf ByteArray.empty l2 x12_3) [.string (rdOf ByteArray.empty l2 x12_3)] from rfl) (Reps.one (show Kd.M Kd.string _ _ _ x0_3 [.string x0_3] from rfl) (Reps.none _ _)))); intro v424 w22 ho23 hb hg_ hnew_; clear hg_ hnew_; (first | rw [← Ny423.out] at ho23 | (simp only [Int.reduceToNat] at ho23; rw [← Ny423.out] at ho23)); have HO425 := Aside0.mk (Kd.R_lower (Kd.R_new' (Kd.R_new' ho23 (Kd.R_lt (mv_ HO418.out))) (Kd.R_lt (mv_ HO422.out))) (below_size bl_)); replace HB := Aside0.mk (below_step bl_ hb); replace HO422 := Aside0.mk (Kd.R_elder' (mv_ HO422.out) (Kd.R_base ho23) hb); replace HO418 := Aside0.mk (Kd.R_elder' (mv_ HO418.out) (Kd.R_base ho23) hb); clear hb ho23; obtain ⟨Ao24, co24, eo24⟩ := Kd.R_slice HO425.out; subst eo24) | (go_at_call 34; (with_reducible refine (palaverref02_Tag.calls k3 4 _ _ y423 t426 _ ?side1 ?side2 A16.out).mono ?_); (case side1 => repeat (first | exact (Kd.R_reads' HO425.out).2.2 | (with_reducible refine Kd.C_alloc ?_ _) | (with_reducible refine Kd.C_drewN ?_ _) | (with_reducible refine Kd.C_drew ?_))); (case side2 => exact (Kd.R_reads' HO425.out).2.1); rintro e w25 ⟨rfl, hb⟩; replace HB := Aside0.mk (below_step bl_ hb); replace HO425 := Aside0.mk (Kd.R_below (mv_ HO425.out) hb); replace HO422 := Aside0.mk (Kd.R_below (mv_ HO422.out) hb); replace HO418 := Aside0.mk (Kd.R_below (mv_ HO418.out) hb); (try clear hb); (try clear hb2); (try clear hk); (try clear hi))); try go_wp2_with (first | ((with_reducible refine gate_dst (N := 61) rfl ?_); refine Kd.R_lit Kd.string _ 9 ?hg (N := 61) ?hd (xs := ([rdOf ByteArray.empty l2 x12_3, x0_3] : List ByteArray)) (inner := [.string (rdOf ByteArray.empty l2 x12_3), .string x0_3]) (ok := fun _ => True) (okp := fun _ => True) ?hr ?hp (fun _ hk => hk) trivial (Below.refl _ _) (Nat.le_refl _) (by simp) ?_; (case hd => rfl); (case hg => rfl); (case hr => exact gr_); (case hp => exact (Reps.one (show Kd.M Kd.string _ _ _ (rdOf ByteArray.empty l2 x12_3) [.string (rdOf ByteArray.empty l2 x12_3)] from rfl) (Reps.one (show Kd.M Kd.string _ _ _ x0_3 [.string x0_3] from rfl) (Reps.none _ _)))); intro v417 w17 ho18 hb hg_ hnew_; clear hg_ hnew_; (first | rw [← Ny416.out] at ho18 | (simp only [Int.reduceToNat] at ho18; rw [← Ny416.out] at ho18)); have HO418 := Aside0.mk (Kd.R_lower (Kd.R_new' ho18 (Kd.R_lt (mv_ HO_11.out))) (below_size bl_)); replace HB := Aside0.mk (below_step bl_ hb); replace HO_11 := Aside0.mk (Kd.R_elder' (mv_ HO_11.out) (Kd.R_base ho18) hb); clear hb ho18; obtain ⟨Ao19, co19, eo19⟩ := Kd.R_slice HO418.out; subst eo19) | (go_at_call 37; (with_reducible refine (palaverref02_Input.calls k3 4 _ _ y416 t419 _ ?side1 ?side2 A14.out).mono ?_); (case side1 => repeat (first | exact (Kd.R_reads' HO418.out).2.2 | (with_reducible refine Kd.C_alloc ?_ _) | (with_reducible refine Kd.C_drewN ?_ _) | (with_reducible refine Kd.C_drew ?_))); (case side2 => exact (Kd.R_reads' HO418.out).2.1); rintro e w20 ⟨rfl, hb⟩; replace HB := Aside0.mk (below_step bl_ hb); replace HO418 := Aside0.mk (Kd.R_below (mv_ HO418.out) hb); replace HO_11 := Aside0.mk (Kd.R_below (mv_ HO_11.out) hb); (try clear hb); (try clear hb2); (try clear hk); (try clear hi)) | ((with_reducible refine gate_builtin (b := .append) (xs := #[.tmp 58, .tmp 63]) rfl ?_); at_builtin; refine Kd.R_append Kd.string (w0 := w) w.heap.size rfl (.tmp 58) (.tmp 63) 24 9 (.string ⟨#[]⟩) 16 rfl Tryz.underlying24 info9 rfl (by decide) (by omega) u11 x11_3 t419 [.string t419] (fun k_ => some k_ ≠ (.slice Ao19 y416.length co19 : Value).ownBlock) (fun _ => False) rfl rfl ?aP (fun _ hk => hk.elim) ?aF ?aO ?aB ?aS ?aL ?_; (case aP => exact rfl); (case aB => exact bl_); (case aF => exact (fun k_ hk => Kd.fresh' (Kd.R_lt (mv_ HO418.out)) k_ hk)); (case aO => exact (by refine mv_ ?_; exact Kd.R_mono HO_11.out (fun _ hk => hk.2))); (case aS => exact (below_size bl_)); (case aL => have := LMc15.out; omega); intro v421 w21 ho hb hg hat; rw [← Ny420.out] at ho; have HO422 := Aside0.mk (ho); replace HB := Aside0.mk (hb); replace HO418 := Aside0.mk (Kd.R_after (ok := (fun _ => True)) (mv_ HO418.out) hg hat); clear HO_11; clear ho hb hg hat) | ((with_reducible refine gate_dst (N := 67) rfl ?_); refine Kd.R_lit Kd.string _ 9 ?hg (N := 67) ?hd (xs := ([rdOf ByteArray.empty l2 x12_3, x0_3] : List ByteArray)) (inner := [.string (rdOf ByteArray.empty l2 x12_3), .string x0_3]) (ok := fun _ => True) (okp := fun _ => True) ?hr ?hp (fun _ hk => hk) trivial (Below.refl _ _) (Nat.le_refl _) (by simp) ?_; (case hd => rfl); (case hg => rfl); (case hr => exact gr_); (case hp => exact (Reps.one (show Kd.M Kd.string _ _ _ (rdOf ByteArray.empty l2 x12_3) [.string (rdOf ByteArray.empty l2 x12_3)] from rfl) (Reps.one (show Kd.M Kd.string _ _ _ x0_3 [.string x0_3] from rfl) (Reps.none _ _)))); intro v424 w22 ho23 hb hg_ hnew_; clear hg_ hnew_; (first | rw [← Ny423.out] at ho23 | (simp only [Int.reduceToNat] at ho23; rw [← Ny423.out] at ho23)); have HO425 := Aside0.mk (Kd.R_lower (Kd.R_new' (Kd.R_new' ho23 (Kd.R_lt (mv_ HO418.out))) (Kd.R_lt (mv_ HO422.out))) (below_size bl_)); replace HB := Aside0.mk (below_step bl_ hb); replace HO422 := Aside0.mk (Kd.R_elder' (mv_ HO422.out) (Kd.R_base ho23) hb); replace HO418 := Aside0.mk (Kd.R_elder' (mv_ HO418.out) (Kd.R_base ho23) hb); clear hb ho23; obtain ⟨Ao24, co24, eo24⟩ := Kd.R_slice HO425.out; subst eo24) | (go_at_call 34; (with_reducible refine (palaverref02_Tag.calls k3 4 _ _ y423 t426 _ ?side1 ?side2 A16.out).mono ?_); (case side1 => repeat (first | exact (Kd.R_reads' HO425.out).2.2 | (with_reducible refine Kd.C_alloc ?_ _) | (with_reducible refine Kd.C_drewN ?_ _) | (with_reducible refine Kd.C_drew ?_))); (case side2 => exact (Kd.R_reads' HO425.out).2.1); rintro e w25 ⟨rfl, hb⟩; replace HB := Aside0.mk (below_step bl_ hb); replace HO425 := Aside0.mk (Kd.R_below (mv_ HO425.out) hb); replace HO422 := Aside0.mk (Kd.R_below (mv_ HO422.out) hb); replace HO418 := Aside0.mk (Kd.R_below (mv_ HO418.out) hb); (try clear hb); (try clear hb2); (try clear hk); (try clear hi))))
         go_roundg k3
         case measure => have := HJ3.out; have := HJ6.out; have := HK3.out; omega
         case rel => exact ⟨(t426), (wrap64 (Int.tdiv x1_3 2)), (y420), (wrap64 (x12_3 + 1)), vq_, vq_, vq_, H', ⟨by have := HJ3.out; have := HJ6.out; have := HK3.out; omega⟩, ⟨by refine mv_ ?_; exact Kd.R_mono HO422.out (fun _ hk => trivial)⟩, ⟨bl_⟩⟩
        rw [if_neg c13] at H
        have c13b0 : ((Int.tmod x1_3 2) == 1) = false := beq_eq_false_iff_ne.mpr c13
        have c13b1 : ((Int.tmod x1_3 2) != 1) = true := bne_iff_ne.mpr c13
        obtain ⟨y427, hy427⟩ : ∃ y_ : List ByteArray, y_ = (([x0_3, rdOf ByteArray.empty l2 x12_3] : List ByteArray)) := ⟨_, rfl⟩
        replace H : ((palaverref02_Input.f k3 4 y427).bind fun t430 => (if x11_3.length < 8796093022208 then ((palaverref02_Tag.f k3 4 (([x0_3, rdOf ByteArray.empty l2 x12_3] : List ByteArray))).bind fun t437 => (palaverref04_Fold.l1 k3 t437 (wrap64 (Int.tdiv x1_3 2)) l2 (x11_3 ++ [t430]) (wrap64 (x12_3 + 1)))) else (none))) = some (r1, r2, r3) := by first | (rw [hy427]; with_reducible exact H) | (have H2_ := (Option.bind_some _ _).symm.trans H; rw [hy427]; with_reducible exact H2_) | (have H2_ := (Option.bind_some _ _).symm.trans H; with_reducible exact H2_) | with_reducible exact H | (rw [hy427]; exact H) | exact H
        have Ny427 := Aside0.mk hy427
        clear hy427
        revert H; refine oa_ fun t430 A26 => nc_ fun c27 H => ?_
        have LMc27 := Aside0.mk c27
        clear c27
        generalize e_ : (x11_3 ++ [t430] : List ByteArray) = y431 at H
        have Ny431 := Aside0.mk e_.symm
        clear e_
        generalize e_ : (([x0_3, rdOf ByteArray.empty l2 x12_3] : List ByteArray) : List ByteArray) = y434 at H
        have Ny434 := Aside0.mk e_.symm
        clear e_
        revert H; refine oa_ fun t437 A28 H => ?_
        have H' := Aside0.mk H
        clear H
        have p414 : 0 ≤ (x12_3 : Int) := ae_
        have q414 : x12_3 < (l2.length : Int) := ae_
        obtain ⟨ad414, e414, hx414_0⟩ := Kd.at_string HR2.out x12_3 p414 q414
        cases e414
        replace hx414_0 := (HB.out.cell (World.block_lt_of_cell? w _ hx414_0)).trans hx414_0
        replace p414 := eq_true p414
        replace q414 := eq_true q414
        go_wp2_with (first | ((with_reducible refine gate_dst (N := 61) rfl ?_); refine Kd.R_lit Kd.string _ 9 ?hg (N := 61) ?hd (xs := ([x0_3, rdOf ByteArray.empty l2 x12_3] : List ByteArray)) (inner := [.string x0_3, .string (rdOf ByteArray.empty l2 x12_3)]) (ok := fun _ => True) (okp := fun _ => True) ?hr ?hp (fun _ hk => hk) trivial (Below.refl _ _) (Nat.le_refl _) (by simp) ?_; (case hd => rfl); (case hg => rfl); (case hr => exact gr_); (case hp => exact (Reps.one (show Kd.M Kd.string _ _ _ x0_3 [.string x0_3] from rfl) (Reps.one (show Kd.M Kd.string _ _ _ (rdOf ByteArray.empty l2 x12_3) [.string (rdOf ByteArray.empty l2 x12_3)] from rfl) (Reps.none _ _)))); intro v428 w29 ho30 hb hg_ hnew_; clear hg_ hnew_; (first | rw [← Ny427.out] at ho30 | (simp only [Int.reduceToNat] at ho30; rw [← Ny427.out] at ho30)); have HO429 := Aside0.mk (Kd.R_lower (Kd.R_new' ho30 (Kd.R_lt (mv_ HO_11.out))) (below_size bl_)); replace HB := Aside0.mk (below_step bl_ hb); replace HO_11 := Aside0.mk (Kd.R_elder' (mv_ HO_11.out) (Kd.R_base ho30) hb); clear hb ho30; obtain ⟨Ao31, co31, eo31⟩ := Kd.R_slice HO429.out; subst eo31) | (go_at_call 37; (with_reducible refine (palaverref02_Input.calls k3 4 _ _ y427 t430 _ ?side1 ?side2 A26.out).mono ?_); (case side1 => repeat (first | exact (Kd.R_reads' HO429.out).2.2 | (with_reducible refine Kd.C_alloc ?_ _) | (with_reducible refine Kd.C_drewN ?_ _) | (with_reducible refine Kd.C_drew ?_))); (case side2 => exact (Kd.R_reads' HO429.out).2.1); rintro e w32 ⟨rfl, hb⟩; replace HB := Aside0.mk (below_step bl_ hb); replace HO429 := Aside0.mk (Kd.R_below (mv_ HO429.out) hb); replace HO_11 := Aside0.mk (Kd.R_below (mv_ HO_11.out) hb); (try clear hb); (try clear hb2); (try clear hk); (try clear hi)) | ((with_reducible refine gate_builtin (b := .append) (xs := #[.tmp 58, .tmp 63]) rfl ?_); at_builtin; refine Kd.R_append Kd.string (w0 := w) w.heap.size rfl (.tmp 58) (.tmp 63) 24 9 (.string ⟨#[]⟩) 16 rfl Tryz.underlying24 info9 rfl (by decide) (by omega) u11 x11_3 t430 [.string t430] (fun k_ => some k_ ≠ (.slice Ao31 y427.length co31 : Value).ownBlock) (fun _ => False) rfl rfl ?aP (fun _ hk => hk.elim) ?aF ?aO ?aB ?aS ?aL ?_; (case aP => exact rfl); (case aB => exact bl_); (case aF => exact (fun k_ hk => Kd.fresh' (Kd.R_lt (mv_ HO429.out)) k_ hk)); (case aO => exact (by refine mv_ ?_; exact Kd.R_mono HO_11.out (fun _ hk => hk.2))); (case aS => exact (below_size bl_)); (case aL => have := LMc27.out; omega); intro v432 w33 ho hb hg hat; rw [← Ny431.out] at ho; have HO433 := Aside0.mk (ho); replace HB := Aside0.mk (hb); replace HO429 := Aside0.mk (Kd.R_after (ok := (fun _ => True)) (mv_ HO429.out) hg hat); clear HO_11; clear ho hb hg hat) | ((with_reducible refine gate_dst (N := 67) rfl ?_); refine Kd.R_lit Kd.string _ 9 ?hg (N := 67) ?hd (xs := ([x0_3, rdOf ByteArray.empty l2 x12_3] : List ByteArray)) (inner := [.string x0_3, .string (rdOf ByteArray.empty l2 x12_3)]) (ok := fun _ => True) (okp := fun _ => True) ?hr ?hp (fun _ hk => hk) trivial (Below.refl _ _) (Nat.le_refl _) (by simp) ?_; (case hd => rfl); (case hg => rfl); (case hr => exact gr_); (case hp => exact (Reps.one (show Kd.M Kd.string _ _ _ x0_3 [.string x0_3] from rfl) (Reps.one (show Kd.M Kd.string _ _ _ (rdOf ByteArray.empty l2 x12_3) [.string (rdOf ByteArray.empty l2 x12_3)] from rfl) (Reps.none _ _)))); intro v435 w34 ho35 hb hg_ hnew_; clear hg_ hnew_; (first | rw [← Ny434.out] at ho35 | (simp only [Int.reduceToNat] at ho35; rw [← Ny434.out] at ho35)); have HO436 := Aside0.mk (Kd.R_lower (Kd.R_new' (Kd.R_new' ho35 (Kd.R_lt (mv_ HO429.out))) (Kd.R_lt (mv_ HO433.out))) (below_size bl_)); replace HB := Aside0.mk (below_step bl_ hb); replace HO433 := Aside0.mk (Kd.R_elder' (mv_ HO433.out) (Kd.R_base ho35) hb); replace HO429 := Aside0.mk (Kd.R_elder' (mv_ HO429.out) (Kd.R_base ho35) hb); clear hb ho35; obtain ⟨Ao36, co36, eo36⟩ := Kd.R_slice HO436.out; subst eo36) | (go_at_call 34; (with_reducible refine (palaverref02_Tag.calls k3 4 _ _ y434 t437 _ ?side1 ?side2 A28.out).mono ?_); (case side1 => repeat (first | exact (Kd.R_reads' HO436.out).2.2 | (with_reducible refine Kd.C_alloc ?_ _) | (with_reducible refine Kd.C_drewN ?_ _) | (with_reducible refine Kd.C_drew ?_))); (case side2 => exact (Kd.R_reads' HO436.out).2.1); rintro e w37 ⟨rfl, hb⟩; replace HB := Aside0.mk (below_step bl_ hb); replace HO436 := Aside0.mk (Kd.R_below (mv_ HO436.out) hb); replace HO433 := Aside0.mk (Kd.R_below (mv_ HO433.out) hb); replace HO429 := Aside0.mk (Kd.R_below (mv_ HO429.out) hb); (try clear hb); (try clear hb2); (try clear hk); (try clear hi)))
        repeat (go_quiet (first | ((with_reducible refine gate_dst (N := 61) rfl ?_); refine Kd.R_lit Kd.string _ 9 ?hg (N := 61) ?hd (xs := ([x0_3, rdOf ByteArray.empty l2 x12_3] : List ByteArray)) (inner := [.string x0_3, .string (rdOf ByteArray.empty l2 x12_3)]) (ok := fun _ => True) (okp := fun _ => True) ?hr ?hp (fun _ hk => hk) trivial (Below.refl _ _) (Nat.le_refl _) (by simp) ?_; (case hd => rfl); (case hg => rfl); (case hr => exact gr_); (case hp => exact (Reps.one (show Kd.M Kd.string _ _ _ x0_3 [.string x0_3] from rfl) (Reps.one (show Kd.M Kd.string _ _ _ (rdOf ByteArray.empty l2 x12_3) [.string (rdOf ByteArray.empty l2 x12_3)] from rfl) (Reps.none _ _)))); intro v428 w29 ho30 hb hg_ hnew_; clear hg_ hnew_; (first | rw [← Ny427.out] at ho30 | (simp only [Int.reduceToNat] at ho30; rw [← Ny427.out] at ho30)); have HO429 := Aside0.mk (Kd.R_lower (Kd.R_new' ho30 (Kd.R_lt (mv_ HO_11.out))) (below_size bl_)); replace HB := Aside0.mk (below_step bl_ hb); replace HO_11 := Aside0.mk (Kd.R_elder' (mv_ HO_11.out) (Kd.R_base ho30) hb); clear hb ho30; obtain ⟨Ao31, co31, eo31⟩ := Kd.R_slice HO429.out; subst eo31) | (go_at_call 37; (with_reducible refine (palaverref02_Input.calls k3 4 _ _ y427 t430 _ ?side1 ?side2 A26.out).mono ?_); (case side1 => repeat (first | exact (Kd.R_reads' HO429.out).2.2 | (with_reducible refine Kd.C_alloc ?_ _) | (with_reducible refine Kd.C_drewN ?_ _) | (with_reducible refine Kd.C_drew ?_))); (case side2 => exact (Kd.R_reads' HO429.out).2.1); rintro e w32 ⟨rfl, hb⟩; replace HB := Aside0.mk (below_step bl_ hb); replace HO429 := Aside0.mk (Kd.R_below (mv_ HO429.out) hb); replace HO_11 := Aside0.mk (Kd.R_below (mv_ HO_11.out) hb); (try clear hb); (try clear hb2); (try clear hk); (try clear hi)) | ((with_reducible refine gate_builtin (b := .append) (xs := #[.tmp 58, .tmp 63]) rfl ?_); at_builtin; refine Kd.R_append Kd.string (w0 := w) w.heap.size rfl (.tmp 58) (.tmp 63) 24 9 (.string ⟨#[]⟩) 16 rfl Tryz.underlying24 info9 rfl (by decide) (by omega) u11 x11_3 t430 [.string t430] (fun k_ => some k_ ≠ (.slice Ao31 y427.length co31 : Value).ownBlock) (fun _ => False) rfl rfl ?aP (fun _ hk => hk.elim) ?aF ?aO ?aB ?aS ?aL ?_; (case aP => exact rfl); (case aB => exact bl_); (case aF => exact (fun k_ hk => Kd.fresh' (Kd.R_lt (mv_ HO429.out)) k_ hk)); (case aO => exact (by refine mv_ ?_; exact Kd.R_mono HO_11.out (fun _ hk => hk.2))); (case aS => exact (below_size bl_)); (case aL => have := LMc27.out; omega); intro v432 w33 ho hb hg hat; rw [← Ny431.out] at ho; have HO433 := Aside0.mk (ho); replace HB := Aside0.mk (hb); replace HO429 := Aside0.mk (Kd.R_after (ok := (fun _ => True)) (mv_ HO429.out) hg hat); clear HO_11; clear ho hb hg hat) | ((with_reducible refine gate_dst (N := 67) rfl ?_); refine Kd.R_lit Kd.string _ 9 ?hg (N := 67) ?hd (xs := ([x0_3, rdOf ByteArray.empty l2 x12_3] : List ByteArray)) (inner := [.string x0_3, .string (rdOf ByteArray.empty l2 x12_3)]) (ok := fun _ => True) (okp := fun _ => True) ?hr ?hp (fun _ hk => hk) trivial (Below.refl _ _) (Nat.le_refl _) (by simp) ?_; (case hd => rfl); (case hg => rfl); (case hr => exact gr_); (case hp => exact (Reps.one (show Kd.M Kd.string _ _ _ x0_3 [.string x0_3] from rfl) (Reps.one (show Kd.M Kd.string _ _ _ (rdOf ByteArray.empty l2 x12_3) [.string (rdOf ByteArray.empty l2 x12_3)] from rfl) (Reps.none _ _)))); intro v435 w34 ho35 hb hg_ hnew_; clear hg_ hnew_; (first | rw [← Ny434.out] at ho35 | (simp only [Int.reduceToNat] at ho35; rw [← Ny434.out] at ho35)); have HO436 := Aside0.mk (Kd.R_lower (Kd.R_new' (Kd.R_new' ho35 (Kd.R_lt (mv_ HO429.out))) (Kd.R_lt (mv_ HO433.out))) (below_size bl_)); replace HB := Aside0.mk (below_step bl_ hb); replace HO433 := Aside0.mk (Kd.R_elder' (mv_ HO433.out) (Kd.R_base ho35) hb); replace HO429 := Aside0.mk (Kd.R_elder' (mv_ HO429.out) (Kd.R_base ho35) hb); clear hb ho35; obtain ⟨Ao36, co36, eo36⟩ := Kd.R_slice HO436.out; subst eo36) | (go_at_call 34; (with_reducible refine (palaverref02_Tag.calls k3 4 _ _ y434 t437 _ ?side1 ?side2 A28.out).mono ?_); (case side1 => repeat (first | exact (Kd.R_reads' HO436.out).2.2 | (with_reducible refine Kd.C_alloc ?_ _) | (with_reducible refine Kd.C_drewN ?_ _) | (with_reducible refine Kd.C_drew ?_))); (case side2 => exact (Kd.R_reads' HO436.out).2.1); rintro e w37 ⟨rfl, hb⟩; replace HB := Aside0.mk (below_step bl_ hb); replace HO436 := Aside0.mk (Kd.R_below (mv_ HO436.out) hb); replace HO433 := Aside0.mk (Kd.R_below (mv_ HO433.out) hb); replace HO429 := Aside0.mk (Kd.R_below (mv_ HO429.out) hb); (try clear hb); (try clear hb2); (try clear hk); (try clear hi))); try go_wp2_with (first | ((with_reducible refine gate_dst (N := 61) rfl ?_); refine Kd.R_lit Kd.string _ 9 ?hg (N := 61) ?hd (xs := ([x0_3, rdOf ByteArray.empty l2 x12_3] : List ByteArray)) (inner := [.string x0_3, .string (rdOf ByteArray.empty l2 x12_3)]) (ok := fun _ => True) (okp := fun _ => True) ?hr ?hp (fun _ hk => hk) trivial (Below.refl _ _) (Nat.le_refl _) (by simp) ?_; (case hd => rfl); (case hg => rfl); (case hr => exact gr_); (case hp => exact (Reps.one (show Kd.M Kd.string _ _ _ x0_3 [.string x0_3] from rfl) (Reps.one (show Kd.M Kd.string _ _ _ (rdOf ByteArray.empty l2 x12_3) [.string (rdOf ByteArray.empty l2 x12_3)] from rfl) (Reps.none _ _)))); intro v428 w29 ho30 hb hg_ hnew_; clear hg_ hnew_; (first | rw [← Ny427.out] at ho30 | (simp only [Int.reduceToNat] at ho30; rw [← Ny427.out] at ho30)); have HO429 := Aside0.mk (Kd.R_lower (Kd.R_new' ho30 (Kd.R_lt (mv_ HO_11.out))) (below_size bl_)); replace HB := Aside0.mk (below_step bl_ hb); replace HO_11 := Aside0.mk (Kd.R_elder' (mv_ HO_11.out) (Kd.R_base ho30) hb); clear hb ho30; obtain ⟨Ao31, co31, eo31⟩ := Kd.R_slice HO429.out; subst eo31) | (go_at_call 37; (with_reducible refine (palaverref02_Input.calls k3 4 _ _ y427 t430 _ ?side1 ?side2 A26.out).mono ?_); (case side1 => repeat (first | exact (Kd.R_reads' HO429.out).2.2 | (with_reducible refine Kd.C_alloc ?_ _) | (with_reducible refine Kd.C_drewN ?_ _) | (with_reducible refine Kd.C_drew ?_))); (case side2 => exact (Kd.R_reads' HO429.out).2.1); rintro e w32 ⟨rfl, hb⟩; replace HB := Aside0.mk (below_step bl_ hb); replace HO429 := Aside0.mk (Kd.R_below (mv_ HO429.out) hb); replace HO_11 := Aside0.mk (Kd.R_below (mv_ HO_11.out) hb); (try clear hb); (try clear hb2); (try clear hk); (try clear hi)) | ((with_reducible refine gate_builtin (b := .append) (xs := #[.tmp 58, .tmp 63]) rfl ?_); at_builtin; refine Kd.R_append Kd.string (w0 := w) w.heap.size rfl (.tmp 58) (.tmp 63) 24 9 (.string ⟨#[]⟩) 16 rfl Tryz.underlying24 info9 rfl (by decide) (by omega) u11 x11_3 t430 [.string t430] (fun k_ => some k_ ≠ (.slice Ao31 y427.length co31 : Value).ownBlock) (fun _ => False) rfl rfl ?aP (fun _ hk => hk.elim) ?aF ?aO ?aB ?aS ?aL ?_; (case aP => exact rfl); (case aB => exact bl_); (case aF => exact (fun k_ hk => Kd.fresh' (Kd.R_lt (mv_ HO429.out)) k_ hk)); (case aO => exact (by refine mv_ ?_; exact Kd.R_mono HO_11.out (fun _ hk => hk.2))); (case aS => exact (below_size bl_)); (case aL => have := LMc27.out; omega); intro v432 w33 ho hb hg hat; rw [← Ny431.out] at ho; have HO433 := Aside0.mk (ho); replace HB := Aside0.mk (hb); replace HO429 := Aside0.mk (Kd.R_after (ok := (fun _ => True)) (mv_ HO429.out) hg hat); clear HO_11; clear ho hb hg hat) | ((with_reducible refine gate_dst (N := 67) rfl ?_); refine Kd.R_lit Kd.string _ 9 ?hg (N := 67) ?hd (xs := ([x0_3, rdOf ByteArray.empty l2 x12_3] : List ByteArray)) (inner := [.string x0_3, .string (rdOf ByteArray.empty l2 x12_3)]) (ok := fun _ => True) (okp := fun _ => True) ?hr ?hp (fun _ hk => hk) trivial (Below.refl _ _) (Nat.le_refl _) (by simp) ?_; (case hd => rfl); (case hg => rfl); (case hr => exact gr_); (case hp => exact (Reps.one (show Kd.M Kd.string _ _ _ x0_3 [.string x0_3] from rfl) (Reps.one (show Kd.M Kd.string _ _ _ (rdOf ByteArray.empty l2 x12_3) [.string (rdOf ByteArray.empty l2 x12_3)] from rfl) (Reps.none _ _)))); intro v435 w34 ho35 hb hg_ hnew_; clear hg_ hnew_; (first | rw [← Ny434.out] at ho35 | (simp only [Int.reduceToNat] at ho35; rw [← Ny434.out] at ho35)); have HO436 := Aside0.mk (Kd.R_lower (Kd.R_new' (Kd.R_new' ho35 (Kd.R_lt (mv_ HO429.out))) (Kd.R_lt (mv_ HO433.out))) (below_size bl_)); replace HB := Aside0.mk (below_step bl_ hb); replace HO433 := Aside0.mk (Kd.R_elder' (mv_ HO433.out) (Kd.R_base ho35) hb); replace HO429 := Aside0.mk (Kd.R_elder' (mv_ HO429.out) (Kd.R_base ho35) hb); clear hb ho35; obtain ⟨Ao36, co36, eo36⟩ := Kd.R_slice HO436.out; subst eo36) | (go_at_call 34; (with_reducible refine (palaverref02_Tag.calls k3 4 _ _ y434 t437 _ ?side1 ?side2 A28.out).mono ?_); (case side1 => repeat (first | exact (Kd.R_reads' HO436.out).2.2 | (with_reducible refine Kd.C_alloc ?_ _) | (with_reducible refine Kd.C_drewN ?_ _) | (with_reducible refine Kd.C_drew ?_))); (case side2 => exact (Kd.R_reads' HO436.out).2.1); rintro e w37 ⟨rfl, hb⟩; replace HB := Aside0.mk (below_step bl_ hb); replace HO436 := Aside0.mk (Kd.R_below (mv_ HO436.out) hb); replace HO433 := Aside0.mk (Kd.R_below (mv_ HO433.out) hb); replace HO429 := Aside0.mk (Kd.R_below (mv_ HO429.out) hb); (try clear hb); (try clear hb2); (try clear hk); (try clear hi))))
        go_roundg k3
        case measure => have := HJ3.out; have := HJ6.out; have := HK3.out; omega
        case rel => exact ⟨(t437), (wrap64 (Int.tdiv x1_3 2)), (y431), (wrap64 (x12_3 + 1)), vq_, vq_, vq_, H', ⟨by have := HJ3.out; have := HJ6.out; have := HK3.out; omega⟩, ⟨by refine mv_ ?_; exact Kd.R_mono HO433.out (fun _ hk => trivial)⟩, ⟨bl_⟩⟩
       rw [if_neg c11] at H
       have c11b0 : decide (x12_3 < (l2.length : Int)) = false := decide_eq_false c11
       clear c11
       simp only [Option.some.injEq, Prod.mk.injEq] at H
       obtain ⟨rfl, rfl, rfl⟩ := H
       go_wp2
       repeat (go_quiet (fail); try go_wp2)
       go_ret3
       exact ⟨_, er_, mv_ HO_11.out, bl_⟩

/-! ### palaverref05_Named: function 38 -/
def palaverref05_Named.f (k : Nat) (a0 : Int) (a1 : ByteArray) : Option (ByteArray) := (palaverref01_Number.f k a0 1).bind fun bt438 => ((palaverref02_Tag.f k 5 (([bt438.1, a1] : List ByteArray))).bind fun t443 => (some t443))
theorem palaverref05_Named.mono : ∀ a0 a1 k, LeO (palaverref05_Named.f k a0 a1) (palaverref05_Named.f (k + 1) a0 a1) := by
 intro a0 a1 k
 unfold palaverref05_Named.f
 repeat' first
  | (with_reducible exact palaverref01_Number.mono _ _ _)
  | (with_reducible exact palaverref02_Tag.mono _ _ _)
  | (with_reducible exact LeO.refl _)
  | (with_reducible exact LeO.none _)
  | (with_reducible refine LeO.ite ?_ ?_)
  | (with_reducible refine LeO.bind ?_ (fun _ => ?_))
  | exact palaverref01_Number.mono _ _ _
  | exact palaverref02_Tag.mono _ _ _
  | exact LeO.none _
  | refine LeO.ite ?_ ?_
  | refine LeO.bind ?_ (fun _ => ?_)
set_option maxHeartbeats 64000000 in
set_option maxRecDepth 100000 in
theorem palaverref05_Named.calls (k : Nat) (a0 : Int) (a1 : ByteArray) (r : ByteArray) (w : World) (h : palaverref05_Named.f k a0 a1 = some r) :
 Calls Tryz.prog 38 #[.int .i64 a0, .string a1] w fun e w' => e = .returned (.string r) ∧ Below w.heap.size w w' := by
 have HB := Aside0.mk (Below.refl w.heap.size w)
 have H : ((palaverref01_Number.f k a0 1).bind fun bt438 => ((palaverref02_Tag.f k 5 (([bt438.1, a1] : List ByteArray))).bind fun t443 => (some t443))) = some r := h
 clear h
 replace H := ob_ H
 obtain ⟨⟨t438, t439⟩, A30, H⟩ := H
 replace H : ((palaverref02_Tag.f k 5 (([t438, a1] : List ByteArray))).bind fun t443 => (some t443)) = some r := H
 have A3 := Aside0.mk A30
 clear A30
 generalize e_ : (([t438, a1] : List ByteArray) : List ByteArray) = y440 at H
 have Ny440 := Aside0.mk e_.symm
 clear e_
 revert H; refine oa_ fun t443 A4 H => ?_
 obtain rfl := Option.some.inj H
 go_enter Tryz.func38, Tryz.ntmps38
 go_wp2_with (first | ((with_reducible refine gate_callee (f := 36) rfl ?_); refine gL_ 9 Tryz.func36 #[.int .i64 a0, .int .i64 1] ?_; (with_reducible refine (palaverref01_Number.calls k a0 1 t438 t439 _ A3.out).mono ?_); rintro e w5 ⟨rfl, hb⟩; refine ⟨_, rfl, ?_⟩; replace HB := Aside0.mk (below_step bl_ hb); clear hb) | ((with_reducible refine gate_dst (N := 14) rfl ?_); refine Kd.R_lit Kd.string _ 9 ?hg (N := 14) ?hd (xs := ([t438, a1] : List ByteArray)) (inner := [.string t438, .string a1]) (ok := fun _ => True) (okp := fun _ => True) ?hr ?hp (fun _ hk => hk) trivial (Below.refl _ _) (Nat.le_refl _) (by simp) ?_; (case hd => rfl); (case hg => rfl); (case hr => exact gr_); (case hp => exact (Reps.one (show Kd.M Kd.string _ _ _ t438 [.string t438] from rfl) (Reps.one (show Kd.M Kd.string _ _ _ a1 [.string a1] from rfl) (Reps.none _ _)))); intro v441 w6 ho7 hb hg_ hnew_; clear hg_ hnew_; (first | rw [← Ny440.out] at ho7 | (simp only [Int.reduceToNat] at ho7; rw [← Ny440.out] at ho7)); have HO442 := Aside0.mk (Kd.R_lower ho7 (below_size bl_)); replace HB := Aside0.mk (below_step bl_ hb); clear hb ho7; obtain ⟨Ao8, co8, eo8⟩ := Kd.R_slice HO442.out; subst eo8) | ((with_reducible refine gate_callee (f := 34) rfl ?_); refine gL_ 15 Tryz.func34 #[.int .i64 5, .slice Ao8 y440.length co8] ?_; (with_reducible refine (palaverref02_Tag.calls k 5 _ _ y440 t443 _ ?side1 ?side2 A4.out).mono ?_); (case side1 => repeat (first | exact (Kd.R_reads' HO442.out).2.2 | (with_reducible refine Kd.C_alloc ?_ _) | (with_reducible refine Kd.C_drewN ?_ _) | (with_reducible refine Kd.C_drew ?_))); (case side2 => exact (Kd.R_reads' HO442.out).2.1); rintro e w9 ⟨rfl, hb⟩; refine ⟨_, rfl, ?_⟩; replace HB := Aside0.mk (below_step bl_ hb); replace HO442 := Aside0.mk (Kd.R_below (mv_ HO442.out) hb); clear hb))
 go_ret
 exact ⟨er_, bl_⟩

/-! ### palaverref05_Verify: function 11 -/
def palaverref05_Verify.f (k : Nat) (a0 : ByteArray) (a1 : ByteArray) (a2 : ByteArray) : Option (Bool × List ByteArray) := (palaverref05_Parts.f k a2).bind fun bt444 => (if bt444.2.2.2 = true then ((palaverref02_Tag.f k 6 (([a1] : List ByteArray))).bind fun t455 => ((palaverref03_Recover.f k t455 bt444.2.1).bind fun bt456 => ((palaverref04_Fold.f k bt456.1 bt444.1 bt444.2.2.1).bind fun bt460 => ((palaverref01_Number.f k (bt444.2.2.1.length : Int) 1).bind fun bt465 => (if bt456.2.length + bt460.2.1.length < 8796093022208 then ((some (bt456.2 ++ bt460.2.1 : List ByteArray)).bind fun y467 => ((palaverref02_Input.f k 5 (([bt465.1, bt460.1] : List ByteArray))).bind fun t473 => ((palaverref02_Input.f k 6 (([a1] : List ByteArray))).bind fun t477 => ((some (([t473, t477] : List ByteArray) : List ByteArray)).bind fun y478 => (if y467.length + y478.length < 8796093022208 then ((palaverref05_Named.f k (bt444.2.2.1.length : Int) bt460.1).bind fun t484 => (some ((t484.toList == a0.toList), (y467 ++ y478)))) else (none)))))) else (none)))))) else (some (false, ([] : List ByteArray))))
theorem palaverref05_Verify.mono : ∀ a0 a1 a2 k, LeO (palaverref05_Verify.f k a0 a1 a2) (palaverref05_Verify.f (k + 1) a0 a1 a2) := by
 intro a0 a1 a2 k
 unfold palaverref05_Verify.f
 repeat' first
  | (with_reducible exact palaverref01_Number.mono _ _ _)
  | (with_reducible exact palaverref02_Input.mono _ _ _)
  | (with_reducible exact palaverref02_Tag.mono _ _ _)
  | (with_reducible exact palaverref03_Recover.mono _ _ _)
  | (with_reducible exact palaverref04_Fold.mono _ _ _ _)
  | (with_reducible exact palaverref05_Named.mono _ _ _)
  | (with_reducible exact palaverref05_Parts.mono _ _)
  | (with_reducible exact LeO.refl _)
  | (with_reducible exact LeO.none _)
  | (with_reducible refine LeO.ite ?_ ?_)
  | (with_reducible refine LeO.bind ?_ (fun _ => ?_))
  | exact palaverref01_Number.mono _ _ _
  | exact palaverref02_Input.mono _ _ _
  | exact palaverref02_Tag.mono _ _ _
  | exact palaverref03_Recover.mono _ _ _
  | exact palaverref04_Fold.mono _ _ _ _
  | exact palaverref05_Named.mono _ _ _
  | exact palaverref05_Parts.mono _ _
  | exact LeO.none _
  | refine LeO.ite ?_ ?_
  | refine LeO.bind ?_ (fun _ => ?_)
set_option maxHeartbeats 64000000 in
set_option maxRecDepth 100000 in
theorem palaverref05_Verify.calls (k : Nat) (a0 : ByteArray) (a1 : ByteArray) (a2 : ByteArray) (r1 : Bool) (r2 : List ByteArray) (w : World) (h : palaverref05_Verify.f k a0 a1 a2 = some (r1, r2)) :
 Calls Tryz.prog 11 #[.string a0, .string a1, .string a2] w fun e w' => ∃ v1_ : Value, e = .returned (.tuple #[.bool r1, v1_]) ∧ Kd.R Kd.string 9 w' w.heap.size (fun _ => True) v1_ r2 ∧ Below w.heap.size w w' := by
 have HB := Aside0.mk (Below.refl w.heap.size w)
 have H : ((palaverref05_Parts.f k a2).bind fun bt444 => (if bt444.2.2.2 = true then ((palaverref02_Tag.f k 6 (([a1] : List ByteArray))).bind fun t455 => ((palaverref03_Recover.f k t455 bt444.2.1).bind fun bt456 => ((palaverref04_Fold.f k bt456.1 bt444.1 bt444.2.2.1).bind fun bt460 => ((palaverref01_Number.f k (bt444.2.2.1.length : Int) 1).bind fun bt465 => (if bt456.2.length + bt460.2.1.length < 8796093022208 then ((some (bt456.2 ++ bt460.2.1 : List ByteArray)).bind fun y467 => ((palaverref02_Input.f k 5 (([bt465.1, bt460.1] : List ByteArray))).bind fun t473 => ((palaverref02_Input.f k 6 (([a1] : List ByteArray))).bind fun t477 => ((some (([t473, t477] : List ByteArray) : List ByteArray)).bind fun y478 => (if y467.length + y478.length < 8796093022208 then ((palaverref05_Named.f k (bt444.2.2.1.length : Int) bt460.1).bind fun t484 => (some ((t484.toList == a0.toList), (y467 ++ y478)))) else (none)))))) else (none)))))) else (some (false, ([] : List ByteArray))))) = some (r1, r2) := h
 clear h
 replace H := ob_ H
 obtain ⟨⟨t444, t445, t446, t447⟩, A40, H⟩ := H
 replace H : (if t447 = true then ((palaverref02_Tag.f k 6 (([a1] : List ByteArray))).bind fun t455 => ((palaverref03_Recover.f k t455 t445).bind fun bt456 => ((palaverref04_Fold.f k bt456.1 t444 t446).bind fun bt460 => ((palaverref01_Number.f k (t446.length : Int) 1).bind fun bt465 => (if bt456.2.length + bt460.2.1.length < 8796093022208 then ((some (bt456.2 ++ bt460.2.1 : List ByteArray)).bind fun y467 => ((palaverref02_Input.f k 5 (([bt465.1, bt460.1] : List ByteArray))).bind fun t473 => ((palaverref02_Input.f k 6 (([a1] : List ByteArray))).bind fun t477 => ((some (([t473, t477] : List ByteArray) : List ByteArray)).bind fun y478 => (if y467.length + y478.length < 8796093022208 then ((palaverref05_Named.f k (t446.length : Int) bt460.1).bind fun t484 => (some ((t484.toList == a0.toList), (y467 ++ y478)))) else (none)))))) else (none)))))) else (some (false, ([] : List ByteArray)))) = some (r1, r2) := H
 have A4 := Aside0.mk A40
 clear A40
 by_cases c5 : t447 = true
 ·subst c5
  have H1 : ((palaverref02_Tag.f k 6 (([a1] : List ByteArray))).bind fun t455 => ((palaverref03_Recover.f k t455 t445).bind fun bt456 => ((palaverref04_Fold.f k bt456.1 t444 t446).bind fun bt460 => ((palaverref01_Number.f k (t446.length : Int) 1).bind fun bt465 => (if bt456.2.length + bt460.2.1.length < 8796093022208 then ((some (bt456.2 ++ bt460.2.1 : List ByteArray)).bind fun y467 => ((palaverref02_Input.f k 5 (([bt465.1, bt460.1] : List ByteArray))).bind fun t473 => ((palaverref02_Input.f k 6 (([a1] : List ByteArray))).bind fun t477 => ((some (([t473, t477] : List ByteArray) : List ByteArray)).bind fun y478 => (if y467.length + y478.length < 8796093022208 then ((palaverref05_Named.f k (t446.length : Int) bt460.1).bind fun t484 => (some ((t484.toList == a0.toList), (y467 ++ y478)))) else (none)))))) else (none)))))) = some (r1, r2) := by rw [if_pos rfl] at H; exact H
  clear H
  have H := H1
  clear H1
  obtain ⟨y452, hy452⟩ : ∃ y_ : List ByteArray, y_ = (([a1] : List ByteArray)) := ⟨_, rfl⟩
  replace H : ((palaverref02_Tag.f k 6 y452).bind fun t455 => ((palaverref03_Recover.f k t455 t445).bind fun bt456 => ((palaverref04_Fold.f k bt456.1 t444 t446).bind fun bt460 => ((palaverref01_Number.f k (t446.length : Int) 1).bind fun bt465 => (if bt456.2.length + bt460.2.1.length < 8796093022208 then ((some (bt456.2 ++ bt460.2.1 : List ByteArray)).bind fun y467 => ((palaverref02_Input.f k 5 (([bt465.1, bt460.1] : List ByteArray))).bind fun t473 => ((palaverref02_Input.f k 6 (([a1] : List ByteArray))).bind fun t477 => ((some (([t473, t477] : List ByteArray) : List ByteArray)).bind fun y478 => (if y467.length + y478.length < 8796093022208 then ((palaverref05_Named.f k (t446.length : Int) bt460.1).bind fun t484 => (some ((t484.toList == a0.toList), (y467 ++ y478)))) else (none)))))) else (none)))))) = some (r1, r2) := by first | (rw [hy452]; with_reducible exact H) | (have H2_ := (Option.bind_some _ _).symm.trans H; rw [hy452]; with_reducible exact H2_) | (have H2_ := (Option.bind_some _ _).symm.trans H; with_reducible exact H2_) | with_reducible exact H | (rw [hy452]; exact H) | exact H
  have Ny452 := Aside0.mk hy452
  clear hy452
  revert H; refine oa_ fun t455 A6 H => ?_
  replace H := ob_ H
  obtain ⟨⟨t456, t457⟩, A70, H⟩ := H
  replace H : ((palaverref04_Fold.f k t456 t444 t446).bind fun bt460 => ((palaverref01_Number.f k (t446.length : Int) 1).bind fun bt465 => (if t457.length + bt460.2.1.length < 8796093022208 then ((some (t457 ++ bt460.2.1 : List ByteArray)).bind fun y467 => ((palaverref02_Input.f k 5 (([bt465.1, bt460.1] : List ByteArray))).bind fun t473 => ((palaverref02_Input.f k 6 (([a1] : List ByteArray))).bind fun t477 => ((some (([t473, t477] : List ByteArray) : List ByteArray)).bind fun y478 => (if y467.length + y478.length < 8796093022208 then ((palaverref05_Named.f k (t446.length : Int) bt460.1).bind fun t484 => (some ((t484.toList == a0.toList), (y467 ++ y478)))) else (none)))))) else (none)))) = some (r1, r2) := H
  have A7 := Aside0.mk A70
  clear A70
  replace H := ob_ H
  obtain ⟨⟨t460, t461, t462⟩, A80, H⟩ := H
  replace H : ((palaverref01_Number.f k (t446.length : Int) 1).bind fun bt465 => (if t457.length + t461.length < 8796093022208 then ((some (t457 ++ t461 : List ByteArray)).bind fun y467 => ((palaverref02_Input.f k 5 (([bt465.1, t460] : List ByteArray))).bind fun t473 => ((palaverref02_Input.f k 6 (([a1] : List ByteArray))).bind fun t477 => ((some (([t473, t477] : List ByteArray) : List ByteArray)).bind fun y478 => (if y467.length + y478.length < 8796093022208 then ((palaverref05_Named.f k (t446.length : Int) t460).bind fun t484 => (some ((t484.toList == a0.toList), (y467 ++ y478)))) else (none)))))) else (none))) = some (r1, r2) := H
  have A8 := Aside0.mk A80
  clear A80
  replace H := ob_ H
  obtain ⟨⟨t465, t466⟩, A90, H⟩ := H
  replace H : (if t457.length + t461.length < 8796093022208 then ((some (t457 ++ t461 : List ByteArray)).bind fun y467 => ((palaverref02_Input.f k 5 (([t465, t460] : List ByteArray))).bind fun t473 => ((palaverref02_Input.f k 6 (([a1] : List ByteArray))).bind fun t477 => ((some (([t473, t477] : List ByteArray) : List ByteArray)).bind fun y478 => (if y467.length + y478.length < 8796093022208 then ((palaverref05_Named.f k (t446.length : Int) t460).bind fun t484 => (some ((t484.toList == a0.toList), (y467 ++ y478)))) else (none)))))) else (none)) = some (r1, r2) := H
  have A9 := Aside0.mk A90
  clear A90
  revert H; refine nc_ fun c10 => oy_ fun y467 Ny467 H => ?_
  have LMc10 := Aside0.mk c10
  clear c10
  generalize e_ : (([t465, t460] : List ByteArray) : List ByteArray) = y470 at H
  have Ny470 := Aside0.mk e_.symm
  clear e_
  revert H; refine oa_ fun t473 A11 H => ?_
  generalize e_ : (([a1] : List ByteArray) : List ByteArray) = y474 at H
  have Ny474 := Aside0.mk e_.symm
  clear e_
  revert H; refine oa_ fun t477 A12 => oy_ fun y478 Ny478 => nc_ fun c13 H => ?_
  have LMc13 := Aside0.mk c13
  clear c13
  generalize e_ : (y467 ++ y478 : List ByteArray) = y481 at H
  have Ny481 := Aside0.mk e_.symm
  clear e_
  revert H; refine oa_ fun t484 A14 H => ?_
  simp only [Option.some.injEq, Prod.mk.injEq] at H
  obtain ⟨rfl, rfl⟩ := H
  go_enter Tryz.func11, Tryz.ntmps11
  go_wp2_with (first | ((with_reducible refine gate_callee (f := 12) rfl ?_); refine gL_ 21 Tryz.func12 #[.string a2] ?_; (with_reducible refine (palaverref05_Parts.calls k a2 t444 t445 t446 true _ A4.out).mono ?_); rintro e w15 ⟨P1_, P2_, q1_, q2_, rfl, hc1_, hq1_, hc2_, hq2_, hb⟩; refine ⟨_, rfl, ?_⟩; have Q1_ := Aside0.mk hq1_; have Q2_ := Aside0.mk hq2_; replace HB := Aside0.mk (below_step bl_ hb); have HO451 := Aside0.mk hc2_; have HO449 := Aside0.mk hc1_; clear hb; clear hc1_ hq1_ hc2_ hq2_) | ((with_reducible refine gate_dst (N := 30) rfl ?_); refine Kd.R_lit Kd.string _ 9 ?hg (N := 30) ?hd (xs := ([a1] : List ByteArray)) (inner := [.string a1]) (ok := fun _ => True) (okp := fun _ => True) ?hr ?hp (fun _ hk => hk) trivial (Below.refl _ _) (Nat.le_refl _) (by simp) ?_; (case hd => rfl); (case hg => rfl); (case hr => exact gr_); (case hp => exact (Reps.one (show Kd.M Kd.string _ _ _ a1 [.string a1] from rfl) (Reps.none _ _))); intro v453 w16 ho17 hb hg_ hnew_; clear hg_ hnew_; (first | rw [← Ny452.out] at ho17 | (simp only [Int.reduceToNat] at ho17; rw [← Ny452.out] at ho17)); have HO454 := Aside0.mk (Kd.R_lower ((ho17)) (below_size bl_)); replace HB := Aside0.mk (below_step bl_ hb); replace HO451 := Aside0.mk (Kd.C_below (by (with_reducible repeat (first | apply Kd.C_alloc | apply Kd.C_drewN | apply Kd.C_drew)); exact HO451.out) hb); replace HO449 := Aside0.mk (Kd.C_below (by (with_reducible repeat (first | apply Kd.C_alloc | apply Kd.C_drewN | apply Kd.C_drew)); exact HO449.out) hb); clear hb ho17; obtain ⟨Ao18, co18, eo18⟩ := Kd.R_slice HO454.out; subst eo18) | ((with_reducible refine gate_callee (f := 34) rfl ?_); refine gL_ 31 Tryz.func34 #[.int .i64 6, .slice Ao18 y452.length co18] ?_; (with_reducible refine (palaverref02_Tag.calls k 6 _ _ y452 t455 _ ?side1 ?side2 A6.out).mono ?_); (case side1 => repeat (first | exact (Kd.R_reads' HO454.out).2.2 | (with_reducible refine Kd.C_alloc ?_ _) | (with_reducible refine Kd.C_drewN ?_ _) | (with_reducible refine Kd.C_drew ?_))); (case side2 => exact (Kd.R_reads' HO454.out).2.1); rintro e w19 ⟨rfl, hb⟩; refine ⟨_, rfl, ?_⟩; replace HB := Aside0.mk (below_step bl_ hb); replace HO454 := Aside0.mk (Kd.R_below (mv_ HO454.out) hb); replace HO451 := Aside0.mk (Kd.C_below (by (with_reducible repeat (first | apply Kd.C_alloc | apply Kd.C_drewN | apply Kd.C_drew)); exact HO451.out) hb); replace HO449 := Aside0.mk (Kd.C_below (by (with_reducible repeat (first | apply Kd.C_alloc | apply Kd.C_drewN | apply Kd.C_drew)); exact HO449.out) hb); clear hb) | ((with_reducible refine gate_callee (f := 33) rfl ?_); refine gL_ 33 Tryz.func33 #[.string t455, .slice P1_ t445.length q1_] ?_; (with_reducible refine (palaverref03_Recover.calls k t455 _ _ t445 t456 t457 _ ?side1 ?side2 A7.out).mono ?_); (case side1 => repeat (first | exact HO449.out | (with_reducible refine Kd.C_alloc ?_ _) | (with_reducible refine Kd.C_drewN ?_ _) | (with_reducible refine Kd.C_drew ?_))); (case side2 => exact Q1_.out); rintro e w21 ⟨v458, rfl, ho0, hb⟩; refine ⟨_, rfl, ?_⟩; have HO459 := Aside0.mk (Kd.R_lower (Kd.R_new' ((ho0)) (Kd.R_lt (mv_ HO454.out))) (below_size bl_)); replace HB := Aside0.mk (below_step bl_ hb); replace HO454 := Aside0.mk (Kd.R_elder' (mv_ HO454.out) (Kd.R_base ho0) hb); replace HO451 := Aside0.mk (Kd.C_below (by (with_reducible repeat (first | apply Kd.C_alloc | apply Kd.C_drewN | apply Kd.C_drew)); exact HO451.out) hb); replace HO449 := Aside0.mk (Kd.C_below (by (with_reducible repeat (first | apply Kd.C_alloc | apply Kd.C_drewN | apply Kd.C_drew)); exact HO449.out) hb); clear hb ho0) | ((with_reducible refine gate_callee (f := 35) rfl ?_); refine gL_ 40 Tryz.func35 #[.string t456, .int .i64 t444, .slice P2_ t446.length q2_] ?_; (with_reducible refine (palaverref04_Fold.calls k t456 t444 _ _ t446 t460 t461 t462 _ ?side1 ?side2 A8.out).mono ?_); (case side1 => repeat (first | exact HO451.out | (with_reducible refine Kd.C_alloc ?_ _) | (with_reducible refine Kd.C_drewN ?_ _) | (with_reducible refine Kd.C_drew ?_))); (case side2 => exact Q2_.out); rintro e w23 ⟨v463, rfl, ho0, hb⟩; refine ⟨_, rfl, ?_⟩; have n2_ := Aside0.mk (Kd.R_elder' (mv_ HO454.out) (Kd.R_base ho0) hb); have n3_ := Aside0.mk (Kd.R_elder' (mv_ HO459.out) (Kd.R_base ho0) hb); have n4_ := Aside0.mk (Kd.R_lower (Kd.R_new' (Kd.R_new' ((ho0)) (Kd.R_lt (mv_ HO454.out))) (Kd.R_lt (mv_ HO459.out))) (below_size bl_)); have n5_ := Aside0.mk (below_step bl_ hb); clear HO449; clear HO451; clear HO454; clear HO459; clear HB; have HO454 := n2_; have HO459 := n3_; have HO464 := n4_; have HB := n5_; clear n2_ n3_ n4_ n5_; clear hb ho0) | ((with_reducible refine gate_callee (f := 36) rfl ?_); refine gL_ 47 Tryz.func36 #[.int .i64 (t446.length : Int), .int .i64 1] ?_; (with_reducible refine (palaverref01_Number.calls k (t446.length : Int) 1 t465 t466 _ A9.out).mono ?_); rintro e w24 ⟨rfl, hb⟩; refine ⟨_, rfl, ?_⟩; have n2_ := Aside0.mk (Kd.R_below (mv_ HO454.out) hb); have n3_ := Aside0.mk (Kd.R_below (mv_ HO459.out) hb); have n4_ := Aside0.mk (Kd.R_below (mv_ HO464.out) hb); have n5_ := Aside0.mk (below_step bl_ hb); clear HO454; clear HO459; clear HO464; clear HB; have HO454 := n2_; have HO459 := n3_; have HO464 := n4_; have HB := n5_; clear n2_ n3_ n4_ n5_; clear hb; obtain ⟨Ao26, co26, eo26⟩ := Kd.R_slice HO464.out; subst eo26) | ((with_reducible refine gate_builtin (b := .append) (xs := #[.tmp 50, .tmp 51]) rfl ?_); at_builtin; refine Kd.R_append_rows Kd.string (w0 := w) w.heap.size rfl (.tmp 50) (.tmp 51) 24 9 (.string ⟨#[]⟩) 16 rfl Tryz.underlying24 info9 rfl (by decide) (by omega) v458 t457 t461 _ _ _ (fun k_ => some k_ ≠ (.slice Ao18 y452.length co18 : Value).ownBlock ∧ some k_ ≠ (.slice Ao26 t461.length co26 : Value).ownBlock) (fun _ => False) rfl rfl ?aO ?aR (fun _ _ h => h) (fun _ h => h.elim) ?aF ?aB ?aS ?aL ?_; (case aR => repeat (first | exact (Kd.R_reads' HO464.out).2.2 | (with_reducible refine Kd.C_alloc ?_ _) | (with_reducible refine Kd.C_drewN ?_ _) | (with_reducible refine Kd.C_drew ?_))); (case aB => exact bl_); (case aF => exact (fun k_ hk => ⟨Kd.fresh' (Kd.R_lt (mv_ HO454.out)) k_ hk, Kd.fresh' (Kd.R_lt (mv_ HO464.out)) k_ hk⟩)); (case aO => exact (by refine mv_ ?_; exact Kd.R_mono HO459.out (fun _ hk => ⟨hk.1.2, hk.2⟩))); (case aS => exact (below_size bl_)); (case aL => have := LMc10.out; omega); intro v468 w25 ho hb hg hat; rw [← Ny467.out] at ho; have n2_ := Aside0.mk (Kd.R_after (ok := (fun k_ => some k_ ≠ (.slice Ao26 t461.length co26 : Value).ownBlock)) (by refine mv_ ?_; exact Kd.R_mono HO454.out (fun _ hk => ⟨hk.2, hk.1.2⟩)) hg hat); have n3_ := Aside0.mk (Kd.R_after (ok := (fun k_ => some k_ ≠ (.slice Ao18 y452.length co18 : Value).ownBlock)) (by refine mv_ ?_; exact Kd.R_mono HO464.out (fun _ hk => ⟨hk.1.2, hk.2⟩)) hg hat); have n4_ := Aside0.mk (hb); have n5_ := Aside0.mk (ho); clear HO454; clear HO464; clear HB; clear HO459; have HO454 := n2_; have HO464 := n3_; have HB := n4_; have HO469 := n5_; clear n2_ n3_ n4_ n5_; clear ho hb hg hat) | ((with_reducible refine gate_dst (N := 56) rfl ?_); refine Kd.R_lit Kd.string _ 9 ?hg (N := 56) ?hd (xs := ([t465, t460] : List ByteArray)) (inner := [.string t465, .string t460]) (ok := fun _ => True) (okp := fun _ => True) ?hr ?hp (fun _ hk => hk) trivial (Below.refl _ _) (Nat.le_refl _) (by simp) ?_; (case hd => rfl); (case hg => rfl); (case hr => exact gr_); (case hp => exact (Reps.one (show Kd.M Kd.string _ _ _ t465 [.string t465] from rfl) (Reps.one (show Kd.M Kd.string _ _ _ t460 [.string t460] from rfl) (Reps.none _ _)))); intro v471 w27 ho28 hb hg_ hnew_; clear hg_ hnew_; (first | rw [← Ny470.out] at ho28 | (simp only [Int.reduceToNat] at ho28; rw [← Ny470.out] at ho28)); have n2_ := Aside0.mk (Kd.R_elder' (mv_ HO454.out) (Kd.R_base ho28) hb); have n3_ := Aside0.mk (Kd.R_elder' (mv_ HO464.out) (Kd.R_base ho28) hb); have n4_ := Aside0.mk (Kd.R_elder' (mv_ HO469.out) (Kd.R_base ho28) hb); have n5_ := Aside0.mk (Kd.R_lower (Kd.R_new' (Kd.R_new' (Kd.R_new' ((ho28)) (Kd.R_lt (mv_ HO454.out))) (Kd.R_lt (mv_ HO464.out))) (Kd.R_lt (mv_ HO469.out))) (below_size bl_)); have n6_ := Aside0.mk (below_step bl_ hb); clear HO454; clear HO464; clear HO469; clear HB; have HO454 := n2_; have HO464 := n3_; have HO469 := n4_; have HO472 := n5_; have HB := n6_; clear n2_ n3_ n4_ n5_ n6_; clear hb ho28; obtain ⟨Ao29, co29, eo29⟩ := Kd.R_slice HO472.out; subst eo29) | ((with_reducible refine gate_callee (f := 37) rfl ?_); refine gL_ 57 Tryz.func37 #[.int .i64 5, .slice Ao29 y470.length co29] ?_; (with_reducible refine (palaverref02_Input.calls k 5 _ _ y470 t473 _ ?side1 ?side2 A11.out).mono ?_); (case side1 => repeat (first | exact (Kd.R_reads' HO472.out).2.2 | (with_reducible refine Kd.C_alloc ?_ _) | (with_reducible refine Kd.C_drewN ?_ _) | (with_reducible refine Kd.C_drew ?_))); (case side2 => exact (Kd.R_reads' HO472.out).2.1); rintro e w30 ⟨rfl, hb⟩; refine ⟨_, rfl, ?_⟩; have n2_ := Aside0.mk (Kd.R_below (mv_ HO454.out) hb); have n3_ := Aside0.mk (Kd.R_below (mv_ HO464.out) hb); have n4_ := Aside0.mk (Kd.R_below (mv_ HO469.out) hb); have n5_ := Aside0.mk (Kd.R_below (mv_ HO472.out) hb); have n6_ := Aside0.mk (below_step bl_ hb); clear HO454; clear HO464; clear HO469; clear HO472; clear HB; have HO454 := n2_; have HO464 := n3_; have HO469 := n4_; have HO472 := n5_; have HB := n6_; clear n2_ n3_ n4_ n5_ n6_; clear hb) | ((with_reducible refine gate_dst (N := 59) rfl ?_); refine Kd.R_lit Kd.string _ 9 ?hg (N := 59) ?hd (xs := ([a1] : List ByteArray)) (inner := [.string a1]) (ok := fun _ => True) (okp := fun _ => True) ?hr ?hp (fun _ hk => hk) trivial (Below.refl _ _) (Nat.le_refl _) (by simp) ?_; (case hd => rfl); (case hg => rfl); (case hr => exact gr_); (case hp => exact (Reps.one (show Kd.M Kd.string _ _ _ a1 [.string a1] from rfl) (Reps.none _ _))); intro v475 w31 ho32 hb hg_ hnew_; clear hg_ hnew_; (first | rw [← Ny474.out] at ho32 | (simp only [Int.reduceToNat] at ho32; rw [← Ny474.out] at ho32)); have n2_ := Aside0.mk (Kd.R_elder' (mv_ HO454.out) (Kd.R_base ho32) hb); have n3_ := Aside0.mk (Kd.R_elder' (mv_ HO464.out) (Kd.R_base ho32) hb); have n4_ := Aside0.mk (Kd.R_elder' (mv_ HO469.out) (Kd.R_base ho32) hb); have n5_ := Aside0.mk (Kd.R_elder' (mv_ HO472.out) (Kd.R_base ho32) hb); have n6_ := Aside0.mk (Kd.R_lower (Kd.R_new' (Kd.R_new' (Kd.R_new' (Kd.R_new' ((ho32)) (Kd.R_lt (mv_ HO454.out))) (Kd.R_lt (mv_ HO464.out))) (Kd.R_lt (mv_ HO469.out))) (Kd.R_lt (mv_ HO472.out))) (below_size bl_)); have n7_ := Aside0.mk (below_step bl_ hb); clear HO454; clear HO464; clear HO469; clear HO472; clear HB; have HO454 := n2_; have HO464 := n3_; have HO469 := n4_; have HO472 := n5_; have HO476 := n6_; have HB := n7_; clear n2_ n3_ n4_ n5_ n6_ n7_; clear hb ho32; obtain ⟨Ao33, co33, eo33⟩ := Kd.R_slice HO476.out; subst eo33) | ((with_reducible refine gate_callee (f := 37) rfl ?_); refine gL_ 60 Tryz.func37 #[.int .i64 6, .slice Ao33 y474.length co33] ?_; (with_reducible refine (palaverref02_Input.calls k 6 _ _ y474 t477 _ ?side1 ?side2 A12.out).mono ?_); (case side1 => repeat (first | exact (Kd.R_reads' HO476.out).2.2 | (with_reducible refine Kd.C_alloc ?_ _) | (with_reducible refine Kd.C_drewN ?_ _) | (with_reducible refine Kd.C_drew ?_))); (case side2 => exact (Kd.R_reads' HO476.out).2.1); rintro e w34 ⟨rfl, hb⟩; refine ⟨_, rfl, ?_⟩; have n2_ := Aside0.mk (Kd.R_below (mv_ HO454.out) hb); have n3_ := Aside0.mk (Kd.R_below (mv_ HO464.out) hb); have n4_ := Aside0.mk (Kd.R_below (mv_ HO469.out) hb); have n5_ := Aside0.mk (Kd.R_below (mv_ HO472.out) hb); have n6_ := Aside0.mk (Kd.R_below (mv_ HO476.out) hb); have n7_ := Aside0.mk (below_step bl_ hb); clear HO454; clear HO464; clear HO469; clear HO472; clear HO476; clear HB; have HO454 := n2_; have HO464 := n3_; have HO469 := n4_; have HO472 := n5_; have HO476 := n6_; have HB := n7_; clear n2_ n3_ n4_ n5_ n6_ n7_; clear hb) | ((with_reducible refine gate_dst (N := 61) rfl ?_); refine Kd.R_lit Kd.string _ 9 ?hg (N := 61) ?hd (xs := ([t473, t477] : List ByteArray)) (inner := [.string t473, .string t477]) (ok := fun _ => True) (okp := fun _ => True) ?hr ?hp (fun _ hk => hk) trivial (Below.refl _ _) (Nat.le_refl _) (by simp) ?_; (case hd => rfl); (case hg => rfl); (case hr => exact gr_); (case hp => exact (Reps.one (show Kd.M Kd.string _ _ _ t473 [.string t473] from rfl) (Reps.one (show Kd.M Kd.string _ _ _ t477 [.string t477] from rfl) (Reps.none _ _)))); intro v479 w35 ho36 hb hg_ hnew_; clear hg_ hnew_; (first | rw [← Ny478.out] at ho36 | (simp only [Int.reduceToNat] at ho36; rw [← Ny478.out] at ho36)); have n2_ := Aside0.mk (Kd.R_elder' (mv_ HO454.out) (Kd.R_base ho36) hb); have n3_ := Aside0.mk (Kd.R_elder' (mv_ HO464.out) (Kd.R_base ho36) hb); have n4_ := Aside0.mk (Kd.R_elder' (mv_ HO469.out) (Kd.R_base ho36) hb); have n5_ := Aside0.mk (Kd.R_elder' (mv_ HO472.out) (Kd.R_base ho36) hb); have n6_ := Aside0.mk (Kd.R_elder' (mv_ HO476.out) (Kd.R_base ho36) hb); have n7_ := Aside0.mk (Kd.R_lower (Kd.R_new' (Kd.R_new' (Kd.R_new' (Kd.R_new' (Kd.R_new' ((ho36)) (Kd.R_lt (mv_ HO454.out))) (Kd.R_lt (mv_ HO464.out))) (Kd.R_lt (mv_ HO469.out))) (Kd.R_lt (mv_ HO472.out))) (Kd.R_lt (mv_ HO476.out))) (below_size bl_)); have n8_ := Aside0.mk (below_step bl_ hb); clear HO454; clear HO464; clear HO469; clear HO472; clear HO476; clear HB; have HO454 := n2_; have HO464 := n3_; have HO469 := n4_; have HO472 := n5_; have HO476 := n6_; have HO480 := n7_; have HB := n8_; clear n2_ n3_ n4_ n5_ n6_ n7_ n8_; clear hb ho36; obtain ⟨Ao38, co38, eo38⟩ := Kd.R_slice HO480.out; subst eo38) | ((with_reducible refine gate_builtin (b := .append) (xs := #[.tmp 53, .tmp 61]) rfl ?_); at_builtin; refine Kd.R_append_rows Kd.string (w0 := w) w.heap.size rfl (.tmp 53) (.tmp 61) 24 9 (.string ⟨#[]⟩) 16 rfl Tryz.underlying24 info9 rfl (by decide) (by omega) v468 y467 y478 _ _ _ (fun k_ => some k_ ≠ (.slice Ao18 y452.length co18 : Value).ownBlock ∧ some k_ ≠ (.slice Ao26 t461.length co26 : Value).ownBlock ∧ some k_ ≠ (.slice Ao29 y470.length co29 : Value).ownBlock ∧ some k_ ≠ (.slice Ao33 y474.length co33 : Value).ownBlock ∧ some k_ ≠ (.slice Ao38 y478.length co38 : Value).ownBlock) (fun _ => False) rfl rfl ?aO ?aR (fun _ _ h => h) (fun _ h => h.elim) ?aF ?aB ?aS ?aL ?_; (case aR => repeat (first | exact (Kd.R_reads' HO480.out).2.2 | (with_reducible refine Kd.C_alloc ?_ _) | (with_reducible refine Kd.C_drewN ?_ _) | (with_reducible refine Kd.C_drew ?_))); (case aB => exact bl_); (case aF => exact (fun k_ hk => ⟨Kd.fresh' (Kd.R_lt (mv_ HO454.out)) k_ hk, Kd.fresh' (Kd.R_lt (mv_ HO464.out)) k_ hk, Kd.fresh' (Kd.R_lt (mv_ HO472.out)) k_ hk, Kd.fresh' (Kd.R_lt (mv_ HO476.out)) k_ hk, Kd.fresh' (Kd.R_lt (mv_ HO480.out)) k_ hk⟩)); (case aO => exact (by refine mv_ ?_; exact Kd.R_mono HO469.out (fun _ hk => ⟨hk.1.1.1.1, ⟨hk.1.1.1.2, ⟨hk.1.1.2, ⟨hk.1.2, hk.2⟩⟩⟩⟩))); (case aS => exact (below_size bl_)); (case aL => have := LMc13.out; omega); intro v482 w37 ho hb hg hat; rw [← Ny481.out] at ho; have n2_ := Aside0.mk (Kd.R_after (ok := (fun k_ => some k_ ≠ (.slice Ao26 t461.length co26 : Value).ownBlock ∧ some k_ ≠ (.slice Ao29 y470.length co29 : Value).ownBlock ∧ some k_ ≠ (.slice Ao33 y474.length co33 : Value).ownBlock ∧ some k_ ≠ (.slice Ao38 y478.length co38 : Value).ownBlock)) (by refine mv_ ?_; exact Kd.R_mono HO454.out (fun _ hk => ⟨⟨hk.1.1.1.1, ⟨hk.1.1.2, ⟨hk.1.2, hk.2⟩⟩⟩, hk.1.1.1.2⟩)) hg hat); have n3_ := Aside0.mk (Kd.R_after (ok := (fun k_ => some k_ ≠ (.slice Ao18 y452.length co18 : Value).ownBlock ∧ some k_ ≠ (.slice Ao29 y470.length co29 : Value).ownBlock ∧ some k_ ≠ (.slice Ao33 y474.length co33 : Value).ownBlock ∧ some k_ ≠ (.slice Ao38 y478.length co38 : Value).ownBlock)) (by refine mv_ ?_; exact Kd.R_mono HO464.out (fun _ hk => ⟨⟨hk.1.1.1.1, ⟨hk.1.1.2, ⟨hk.1.2, hk.2⟩⟩⟩, hk.1.1.1.2⟩)) hg hat); have n4_ := Aside0.mk (Kd.R_after (ok := (fun k_ => some k_ ≠ (.slice Ao18 y452.length co18 : Value).ownBlock ∧ some k_ ≠ (.slice Ao26 t461.length co26 : Value).ownBlock ∧ some k_ ≠ (.slice Ao33 y474.length co33 : Value).ownBlock ∧ some k_ ≠ (.slice Ao38 y478.length co38 : Value).ownBlock)) (by refine mv_ ?_; exact Kd.R_mono HO472.out (fun _ hk => ⟨⟨hk.1.1.1.1.2, ⟨hk.1.1.1.2, ⟨hk.1.2, hk.2⟩⟩⟩, hk.1.1.2⟩)) hg hat); have n5_ := Aside0.mk (Kd.R_after (ok := (fun k_ => some k_ ≠ (.slice Ao18 y452.length co18 : Value).ownBlock ∧ some k_ ≠ (.slice Ao26 t461.length co26 : Value).ownBlock ∧ some k_ ≠ (.slice Ao29 y470.length co29 : Value).ownBlock ∧ some k_ ≠ (.slice Ao38 y478.length co38 : Value).ownBlock)) (by refine mv_ ?_; exact Kd.R_mono HO476.out (fun _ hk => ⟨⟨hk.1.1.1.1.2, ⟨hk.1.1.1.2, ⟨hk.1.2, hk.2⟩⟩⟩, hk.1.1.2⟩)) hg hat); have n6_ := Aside0.mk (Kd.R_after (ok := (fun k_ => some k_ ≠ (.slice Ao18 y452.length co18 : Value).ownBlock ∧ some k_ ≠ (.slice Ao26 t461.length co26 : Value).ownBlock ∧ some k_ ≠ (.slice Ao29 y470.length co29 : Value).ownBlock ∧ some k_ ≠ (.slice Ao33 y474.length co33 : Value).ownBlock)) (by refine mv_ ?_; exact Kd.R_mono HO480.out (fun _ hk => ⟨⟨hk.1.1.1.1.2, ⟨hk.1.1.1.2, ⟨hk.1.2, hk.2⟩⟩⟩, hk.1.1.2⟩)) hg hat); have n7_ := Aside0.mk (hb); have n8_ := Aside0.mk (ho); clear HO454; clear HO464; clear HO472; clear HO476; clear HO480; clear HB; clear HO469; have HO454 := n2_; have HO464 := n3_; have HO472 := n4_; have HO476 := n5_; have HO480 := n6_; have HB := n7_; have HO483 := n8_; clear n2_ n3_ n4_ n5_ n6_ n7_ n8_; clear ho hb hg hat) | ((with_reducible refine gate_callee (f := 38) rfl ?_); refine gL_ 66 Tryz.func38 #[.int .i64 (t446.length : Int), .string t460] ?_; (with_reducible refine (palaverref05_Named.calls k (t446.length : Int) t460 t484 _ A14.out).mono ?_); rintro e w39 ⟨rfl, hb⟩; refine ⟨_, rfl, ?_⟩; have n2_ := Aside0.mk (Kd.R_below (mv_ HO454.out) hb); have n3_ := Aside0.mk (Kd.R_below (mv_ HO464.out) hb); have n4_ := Aside0.mk (Kd.R_below (mv_ HO472.out) hb); have n5_ := Aside0.mk (Kd.R_below (mv_ HO476.out) hb); have n6_ := Aside0.mk (Kd.R_below (mv_ HO480.out) hb); have n7_ := Aside0.mk (Kd.R_below (mv_ HO483.out) hb); have n8_ := Aside0.mk (below_step bl_ hb); clear HO454; clear HO464; clear HO472; clear HO476; clear HO480; clear HO483; clear HB; have HO454 := n2_; have HO464 := n3_; have HO472 := n4_; have HO476 := n5_; have HO480 := n6_; have HO483 := n7_; have HB := n8_; clear n2_ n3_ n4_ n5_ n6_ n7_ n8_; clear hb))
  go_ret2
  exact ⟨_, er_, by refine mv_ ?_; exact Kd.R_mono HO483.out (fun _ hk => trivial), bl_⟩
 replace c5 := Bool.eq_false_iff.mpr c5
 subst c5
 have H1 : (some (false, ([] : List ByteArray))) = some (r1, r2) := by rw [if_neg (show ¬ (false = true) by decide)] at H; exact H
 clear H
 have H := H1
 clear H1
 simp only [Option.some.injEq, Prod.mk.injEq] at H
 obtain ⟨rfl, rfl⟩ := H
 go_enter Tryz.func11, Tryz.ntmps11
 go_wp2_with (first | ((with_reducible refine gate_callee (f := 12) rfl ?_); refine gL_ 21 Tryz.func12 #[.string a2] ?_; (with_reducible refine (palaverref05_Parts.calls k a2 t444 t445 t446 false _ A4.out).mono ?_); rintro e w40 ⟨P1_, P2_, q1_, q2_, rfl, hc1_, hq1_, hc2_, hq2_, hb⟩; refine ⟨_, rfl, ?_⟩; have Q1_ := Aside0.mk hq1_; have Q2_ := Aside0.mk hq2_; replace HB := Aside0.mk (below_step bl_ hb); have HO451 := Aside0.mk hc2_; have HO449 := Aside0.mk hc1_; clear hb; clear hc1_ hq1_ hc2_ hq2_))
 go_ret2
 exact ⟨_, er_, by first | exact Kd.R_nil _ _ _ _ _ | exact Kd.N_nil _ _ _ _ _ | exact Kd.V_nil _ _ _ _ _ | exact Kd.Q_nil _ _ _ _ _ | exact Kd.S_nil _ _ _ _ _, bl_⟩

/-- A state of type 139 at block g of W; what its slices lead to came in by w0. -/
def IsS139 (w0 W : World) (g : Nat) (f0 : ByteArray) (f1 : Bool) : Prop := W.heap[g]? = some (.cells #[.string f0, .bool f1] 139 (0, 0)) ∧ w0.heap.size ≤ g
theorem IsS139.grown {w0 W : World} {g : Nat} {f0 : ByteArray} {f1 : Bool} {W1 : World} {row : Option Nat} (h : IsS139 w0 W g f0 f1) (hw : W.grownBy W1 row) (hne : some g ≠ row) : IsS139 w0 W1 g f0 f1 := by
 obtain ⟨hb, hg⟩ := h
 exact ⟨blk_grown hb hw hne, hg⟩
theorem IsS139.own_neN {w0 W : World} {g : Nat} {f0 : ByteArray} {f1 : Bool} {α : Type} {d : Kd α} {e : Nat} {base : Nat} {ok : Nat → Prop} {v : Value} {xs : List α} (h : IsS139 w0 W g f0 f1) (ho : Kd.N d e W base ok v xs) (ht : e ≠ 139) : some g ≠ v.ownBlock := by
 obtain ⟨hb, hg⟩ := h
 exact Kd.N_ne ho hb ht
theorem IsS139.fresh {w0 W : World} {g : Nat} {f0 : ByteArray} {f1 : Bool} (h : IsS139 w0 W g f0 f1) : ∀ k, W.heap.size ≤ k → k ≠ g := by
 obtain ⟨hb, hg⟩ := h
 exact Kd.freshB hb
theorem IsS139.kept {w0 W : World} {g : Nat} {f0 : ByteArray} {f1 : Bool} {W1 : World} {S : Nat → Prop} (h : IsS139 w0 W g f0 f1) (hk : Kept W W1 S) (hne : ¬ S g) : IsS139 w0 W1 g f0 f1 := by
 obtain ⟨hb, hg⟩ := h
 exact ⟨blk_kept hb hk hne, hg⟩
theorem IsS139.below {w0 W : World} {g : Nat} {f0 : ByteArray} {f1 : Bool} {W1 : World} (h : IsS139 w0 W g f0 f1) (hw : Below W.heap.size W W1) : IsS139 w0 W1 g f0 f1 := h.grown (grown_of_below hw none) (by simp)
theorem IsS139.alloc {w0 W : World} {g : Nat} {f0 : ByteArray} {f1 : Bool} (h : IsS139 w0 W g f0 f1) (o : Obj) : IsS139 w0 (W.alloc o) g f0 f1 := h.below (below_alloc (Below.refl _ _) o)
theorem IsS139.drewN {w0 W : World} {g : Nat} {f0 : ByteArray} {f1 : Bool} (h : IsS139 w0 W g f0 f1) (m : Nat) : IsS139 w0 (W.drewN m) g f0 f1 := h
theorem IsS139.drew {w0 W : World} {g : Nat} {f0 : ByteArray} {f1 : Bool} (h : IsS139 w0 W g f0 f1) : IsS139 w0 W.drew g f0 f1 := h
theorem IsS139.at_ {w0 W : World} {g : Nat} {f0 : ByteArray} {f1 : Bool} {w' : World} {m : Nat} (hq : W.drewN m = w') (h : IsS139 w0 W g f0 f1) : IsS139 w0 w' g f0 f1 := by subst hq; exact IsS139.drewN h m
theorem IsS139.apart {w0 W : World} {g : Nat} {f0 : ByteArray} {f1 : Bool} {α : Type} {d : Kd α} {e : Nat} {base : Nat} {ok : Nat → Prop} {v : Value} {xs : List α} (h : IsS139 w0 W g f0 f1) (ho : d.R e W base ok v xs) (ht : ∀ q, q ∈ e :: d.E → q ≠ 139) : d.R e W base (fun k => ok k ∧ k ≠ g) v xs := by
 obtain ⟨hb, hg⟩ := h
 exact Kd.R_types ho hb ht
theorem IsS139.own_ne {w0 W : World} {g : Nat} {f0 : ByteArray} {f1 : Bool} {α : Type} {d : Kd α} {e : Nat} {base : Nat} {ok : Nat → Prop} {v : Value} {xs : List α} (h : IsS139 w0 W g f0 f1) (ho : d.R e W base ok v xs) (ht : e ≠ 139) : some g ≠ v.ownBlock := by
 obtain ⟨hb, hg⟩ := h
 exact Kd.R_ne ho hb ht
theorem IsS139.apartQ {w0 W : World} {g : Nat} {f0 : ByteArray} {f1 : Bool} {α : Type} {d : Kd α} {e : Nat} {base : Nat} {ok : Nat → Prop} {v : Value} {xs : List α} (h : IsS139 w0 W g f0 f1) (ho : d.Q e W base ok v xs) (ht : ∀ q, q ∈ e :: d.E → q ≠ 139) : d.Q e W base (fun k => ok k ∧ k ≠ g) v xs := by
 obtain ⟨hb, hg⟩ := h
 exact Kd.Q_types ho hb ht
theorem IsS139.own_neQ {w0 W : World} {g : Nat} {f0 : ByteArray} {f1 : Bool} {α : Type} {d : Kd α} {e : Nat} {base : Nat} {ok : Nat → Prop} {v : Value} {xs : List α} (h : IsS139 w0 W g f0 f1) (ho : d.Q e W base ok v xs) (ht : e ≠ 139) : some g ≠ v.ownBlock := by
 obtain ⟨hb, hg⟩ := h
 exact Kd.Q_ne ho hb ht
theorem IsS139.apartS {w0 W : World} {g : Nat} {f0 : ByteArray} {f1 : Bool} {α : Type} {d : Kd α} {e : Nat} {base : Nat} {ok : Nat → Prop} {v : Value} {xs : List α} (h : IsS139 w0 W g f0 f1) (ho : d.S e W base ok v xs) (ht : ∀ q, q ∈ e :: d.E → q ≠ 139) : d.S e W base (fun k => ok k ∧ k ≠ g) v xs := by
 obtain ⟨hb, hg⟩ := h
 exact Kd.S_types ho hb ht
theorem IsS139.own_neS {w0 W : World} {g : Nat} {f0 : ByteArray} {f1 : Bool} {α : Type} {d : Kd α} {e : Nat} {base : Nat} {ok : Nat → Prop} {v : Value} {xs : List α} (h : IsS139 w0 W g f0 f1) (ho : d.S e W base ok v xs) (ht : e ≠ 139) : some g ≠ v.ownBlock := by
 obtain ⟨hb, hg⟩ := h
 exact Kd.S_ne ho hb ht
theorem IsS139.lt {w0 W : World} {g : Nat} {f0 : ByteArray} {f1 : Bool} (h : IsS139 w0 W g f0 f1) : g < W.heap.size := by
 obtain ⟨hb, hg⟩ := h
 exact blk_lt hb
theorem IsS139.ge {w0 W : World} {g : Nat} {f0 : ByteArray} {f1 : Bool} (h : IsS139 w0 W g f0 f1) : w0.heap.size ≤ g := by
 obtain ⟨hb, hg⟩ := h
 exact hg
theorem IsS139.ne_blk {w0 W : World} {g : Nat} {f0 : ByteArray} {f1 : Bool} {a : Nat} {cs : Array Value} {t : TypeId} {fr : Nat × Nat} (h : IsS139 w0 W g f0 f1) (hb2 : W.heap[a]? = some (.cells cs t fr)) (ht : t ≠ 139) : g ≠ a := by
 obtain ⟨hb, hg⟩ := h
 rintro rfl
 rw [hb] at hb2
 injection hb2 with hb2
 injection hb2 with _ ht2
 exact ht ht2.symm
theorem IsS139.far {w0 W : World} {g : Nat} {f0 : ByteArray} {f1 : Bool} {p : Addr} (h : IsS139 w0 W g f0 f1) (hne : g ≠ p.block) (u : Value) : IsS139 w0 (W.setCell p u) g f0 f1 := by
 obtain ⟨hb, hg⟩ := h
 exact ⟨blk_far hb hne u, hg⟩
theorem cellS139_0 {W : World} {g : Nat} {f0 : ByteArray} {f1 : Bool} (h : W.heap[g]? = some (.cells #[.string f0, .bool f1] 139 (0, 0))) : W.cell? ⟨g, 0, none⟩ = some (.string f0) := (blk_cell h 0).trans rfl
theorem IsS139.set_0 {w0 W : World} {g : Nat} {f0 : ByteArray} {f1 : Bool} (h : IsS139 w0 W g f0 f1) (x : ByteArray) : IsS139 w0 (W.setCell ⟨g, 0, none⟩ (.string x)) g x f1 := by
 obtain ⟨hb, hg⟩ := h
 exact ⟨by simpa using blk_set hb 0 (.string x), hg⟩
theorem cellS139_1 {W : World} {g : Nat} {f0 : ByteArray} {f1 : Bool} (h : W.heap[g]? = some (.cells #[.string f0, .bool f1] 139 (0, 0))) : W.cell? ⟨g, 1, none⟩ = some (.bool f1) := (blk_cell h 1).trans rfl
theorem IsS139.set_1 {w0 W : World} {g : Nat} {f0 : ByteArray} {f1 : Bool} (h : IsS139 w0 W g f0 f1) (x : Bool) : IsS139 w0 (W.setCell ⟨g, 1, none⟩ (.bool x)) g f0 x := by
 obtain ⟨hb, hg⟩ := h
 exact ⟨by simpa using blk_set hb 1 (.bool x), hg⟩
theorem IsS139.new (w0 W : World) (f0 : ByteArray) (f1 : Bool) (hB : Below w0.heap.size w0 W) : IsS139 w0 (W.alloc (.cells #[.string f0, .bool f1] 139)) W.heap.size f0 f1 := ⟨by simpa using heap_alloc_new W _, hB.size⟩

/-! ### octets_Read: function 68 -/
def octets_Read.f (a0 : ByteArray) : Option (ByteArray × Bool) := some (a0, false)
set_option maxHeartbeats 64000000 in
set_option maxRecDepth 100000 in
theorem octets_Read.calls (a0 : ByteArray) (r1 : ByteArray) (r2 : Bool) (w0 w : World) (hB : Below w0.heap.size w0 w) (h : octets_Read.f a0 = some (r1, r2)) :
 Calls Tryz.prog 68 #[.string a0] w fun e w' => ∃ g_ : Nat, e = .returned (.pointer (some ⟨g_, 0, none⟩)) ∧ IsS139 w0 w' g_ r1 r2 ∧ Below w0.heap.size w0 w' ∧ Below w.heap.size w w' := by
 have hu139 := Tryz.underlying139
 have HBW := Aside0.mk (Below.refl w.heap.size w)
 have HW0 := Aside0.mk hB.size
 have HB := Aside0.mk hB
 clear hB
 have H : (some (a0, false)) = some (r1, r2) := h
 clear h
 simp only [Option.some.injEq, Prod.mk.injEq] at H
 obtain ⟨rfl, rfl⟩ := H
 go_enter Tryz.func68, Tryz.ntmps68
 go_wp2_with (first | ((with_reducible refine gate_dst (N := 5) rfl ?_); refine box_event ?hg (N := 5) ?hd (cs := #[.string a0, .bool false]) (t := 139) ?hr ?_; (case hd => rfl); (case hg => rfl); (case hr => exact gr_); intro gb485 hg w2 hbox hb; have GE485 := Aside0.mk ((Nat.le_trans HW0.out (by rw [hg]; exact (below_size (by repeat (first | (with_reducible first | exact HBW.out | apply lA_ | apply lN_ | apply lD_) | exact HBW.out))) : w.heap.size ≤ gb485) : w0.heap.size ≤ gb485)); have GW485 := Aside0.mk ((by rw [hg]; exact (below_size (by repeat (first | (with_reducible first | exact HBW.out | apply lA_ | apply lN_ | apply lD_) | exact HBW.out))) : w.heap.size ≤ gb485)); have BK485 := Aside0.mk (hbox); replace HB := Aside0.mk (below_step bl_ hb); replace HBW := Aside0.mk (below_step HBW.out hb); clear hb hbox hg))
 go_ret
 exact ⟨_, rfl, (show IsS139 w0 _ gb485 a0 false from ⟨mb_ BK485.out, GE485.out⟩), bs_ GE485.out, by repeat (first | (with_reducible first | exact HBW.out | apply lA_ | apply lN_ | apply lD_ | refine lS_ ?_ GW485.out) | exact HBW.out)⟩

/-! ### octets_Reader_Take: function 71 -/
def octets_Reader_Take.j0 : Nat → Int → Bool → ByteArray → Bool → Option (ByteArray × ByteArray × Bool)
 | 0, _, _, _, _ => none
 | k + 1, x1, x26, x1000, x1001 => if x26 = true then (some ((⟨#[]⟩ : ByteArray), x1000, true)) else (if 0 ≤ x1 then (if x1 ≤ (x1000.size : Int) then (some (x1000.extract 0 (x1 : Int).toNat, x1000.extract (x1 : Int).toNat x1000.size, x1001)) else (none)) else (none))
def octets_Reader_Take.f (k : Nat) (s0_0 : ByteArray) (s0_1 : Bool) (a1 : Int) : Option (ByteArray × ByteArray × Bool) := if s0_1 = true then (octets_Reader_Take.j0 k a1 true s0_0 s0_1) else (if a1 < 0 then (octets_Reader_Take.j0 k a1 true s0_0 s0_1) else (octets_Reader_Take.j0 k a1 (decide (a1 > (s0_0.size : Int))) s0_0 s0_1))
theorem octets_Reader_Take.mono_l : ∀ k, (∀ y0 y1 y2 y3, LeO (octets_Reader_Take.j0 k y0 y1 y2 y3) (octets_Reader_Take.j0 (k + 1) y0 y1 y2 y3))
 | 0 => fun _ _ _ _ r h => by simp [octets_Reader_Take.j0] at h
 | k + 1 => by
  have ih0 := octets_Reader_Take.mono_l k
  ·intro y0 y1 y2 y3
   unfold octets_Reader_Take.j0
   repeat' first
   | (with_reducible exact ih0 _ _ _ _)
   | (with_reducible exact LeO.refl _)
   | (with_reducible exact LeO.none _)
   | (with_reducible refine LeO.ite ?_ ?_)
   | (with_reducible refine LeO.bind ?_ (fun _ => ?_))
   | exact ih0 _ _ _ _
   | exact LeO.none _
   | refine LeO.ite ?_ ?_
   | refine LeO.bind ?_ (fun _ => ?_)
theorem octets_Reader_Take.mono : ∀ a0 a1 a2 k, LeO (octets_Reader_Take.f k a0 a1 a2) (octets_Reader_Take.f (k + 1) a0 a1 a2) := by
 intro a0 a1 a2 k
 have ih0 := octets_Reader_Take.mono_l k
 unfold octets_Reader_Take.f
 repeat' first
  | (with_reducible exact ih0 _ _ _ _)
  | (with_reducible exact LeO.refl _)
  | (with_reducible exact LeO.none _)
  | (with_reducible refine LeO.ite ?_ ?_)
  | (with_reducible refine LeO.bind ?_ (fun _ => ?_))
  | exact ih0 _ _ _ _
  | exact LeO.none _
  | refine LeO.ite ?_ ?_
  | refine LeO.bind ?_ (fun _ => ?_)
set_option maxHeartbeats 64000000 in
set_option maxRecDepth 100000 in
theorem octets_Reader_Take.calls (k : Nat) (g : Nat) (s0_0 : ByteArray) (s0_1 : Bool) (a1 : Int) (r1 : ByteArray) (r2 : ByteArray) (r3 : Bool) (w0 w : World) (hI : IsS139 w0 w g s0_0 s0_1) (hB : Below w0.heap.size w0 w) (h : octets_Reader_Take.f k s0_0 s0_1 a1 = some (r1, r2, r3)) :
 Calls Tryz.prog 71 #[.pointer (some ⟨g, 0, none⟩), .int .i64 a1] w fun e w' => e = .returned (.string r1) ∧ IsS139 w0 w' g r2 r3 ∧ Below w0.heap.size w0 w' ∧ KeepBut w w' g none := by
 have HI0 := Aside0.mk hI
 have HK := Aside0.mk (KeepBut.refl w g none)
 have HL := Aside0.mk hB.size
 clear hI
 have HW0 := Aside0.mk hB.size
 have HB := Aside0.mk hB
 clear hB
 have H : (if s0_1 = true then (octets_Reader_Take.j0 k a1 true s0_0 s0_1) else (if a1 < 0 then (octets_Reader_Take.j0 k a1 true s0_0 s0_1) else (octets_Reader_Take.j0 k a1 (decide (a1 > (s0_0.size : Int))) s0_0 s0_1))) = some (r1, r2, r3) := h
 clear h
 have HC3 := Aside0.mk H
 clear H
 go_enter Tryz.func71, Tryz.ntmps71
 go_upto_region 1 with (fail)
 go_cut [26] (fun v26 wc => ∃ (kq : Nat) (x26_2 : Bool), v26 = .bool x26_2 ∧ Aside0 (octets_Reader_Take.j0 kq a1 x26_2 s0_0 s0_1 = some (r1, r2, r3)) ∧ Aside0 (kq ≤ k) ∧ Aside0 (IsS139 w0 wc g s0_0 s0_1) ∧ Aside0 (KeepBut w wc g none) ∧ Aside0 (Below w0.heap.size w0 wc))
 case first =>
  have H := HC3.out
  clear HC3
  by_cases c4 : s0_1 = true
  ·subst c4
   have H1 : (octets_Reader_Take.j0 k a1 true s0_0 true) = some (r1, r2, r3) := by rw [if_pos rfl] at H; exact H
   clear H
   have H := H1
   clear H1
   have H' := Aside0.mk H
   clear H
   obtain ⟨HGz5, hgz5⟩ := HI0.out
   have hcz5_0 := cellS139_0 HGz5
   have hcz5_1 := cellS139_1 HGz5
   have hfz5_0 := blk_frozen HGz5 0
   have hfz5_1 := blk_frozen HGz5 1
   clear HGz5 hgz5
   go_wp2
   go_meet
   case rel => exact ⟨_, (true), vq_, H', ⟨by first | omega | exact Nat.le_refl _⟩, ⟨by repeat (first | (with_reducible first | exact HI0.out | apply IsS139.alloc | apply IsS139.drewN | apply IsS139.drew | apply IsS139.set_0 | apply IsS139.set_1) | exact HI0.out)⟩, ⟨hk_⟩, ⟨bs_ (IsS139.ge HI0.out)⟩⟩
  replace c4 := Bool.eq_false_iff.mpr c4
  subst c4
  have H1 : (if a1 < 0 then (octets_Reader_Take.j0 k a1 true s0_0 false) else (octets_Reader_Take.j0 k a1 (decide (a1 > (s0_0.size : Int))) s0_0 false)) = some (r1, r2, r3) := by rw [if_neg (show ¬ (false = true) by decide)] at H; exact H
  clear H
  have H := H1
  clear H1
  by_cases c6 : a1 < 0
  ·rw [if_pos c6] at H
   have c6b0 : decide (a1 < 0) = true := decide_eq_true c6
   clear c6
   (first | rw [c6b0] | (simp only [i64_w, i32_w]; rw [c6b0]) | skip)
   have H' := Aside0.mk H
   clear H
   obtain ⟨HGz7, hgz7⟩ := HI0.out
   have hcz7_0 := cellS139_0 HGz7
   have hcz7_1 := cellS139_1 HGz7
   have hfz7_0 := blk_frozen HGz7 0
   have hfz7_1 := blk_frozen HGz7 1
   clear HGz7 hgz7
   go_wp2
   go_meet
   case rel => exact ⟨_, (true), vq_, H', ⟨by first | omega | exact Nat.le_refl _⟩, ⟨by repeat (first | (with_reducible first | exact HI0.out | apply IsS139.alloc | apply IsS139.drewN | apply IsS139.drew | apply IsS139.set_0 | apply IsS139.set_1) | exact HI0.out)⟩, ⟨hk_⟩, ⟨bs_ (IsS139.ge HI0.out)⟩⟩
  rw [if_neg c6] at H
  have c6b0 : decide (a1 < 0) = false := decide_eq_false c6
  clear c6
  (first | rw [c6b0] | (simp only [i64_w, i32_w]; rw [c6b0]) | skip)
  have H' := Aside0.mk H
  clear H
  obtain ⟨HGz8, hgz8⟩ := HI0.out
  have hcz8_0 := cellS139_0 HGz8
  have hcz8_1 := cellS139_1 HGz8
  have hfz8_0 := blk_frozen HGz8 0
  have hfz8_1 := blk_frozen HGz8 1
  clear HGz8 hgz8
  go_wp2
  go_meet
  case rel => exact ⟨_, (decide (a1 > (s0_0.size : Int))), vq_, H', ⟨by first | omega | exact Nat.le_refl _⟩, ⟨by repeat (first | (with_reducible first | exact HI0.out | apply IsS139.alloc | apply IsS139.drewN | apply IsS139.drew | apply IsS139.set_0 | apply IsS139.set_1) | exact HI0.out)⟩, ⟨hk_⟩, ⟨bs_ (IsS139.ge HI0.out)⟩⟩
 case rest =>
  clear HC3
  (try clear p2); (try clear c4); (try clear c6); (try clear c6b0); (try clear p6); (try clear c7); (try clear hcz5_0); (try clear hcz5_1); (try clear hcz7_0); (try clear hcz7_1); (try clear hcz8_0); (try clear hcz8_1); (try clear hfz5_0); (try clear hfz5_1); (try clear hfz7_0); (try clear hfz7_1); (try clear hfz8_0); (try clear hfz8_1)
  obtain ⟨kq, x26_2, rfl, HA, HJ2, HI0, HK, HB⟩ := hcut
  cases kq with
  | zero => exact absurd HA.out (by simp [octets_Reader_Take.j0])
  | succ kj2 =>
   have H := HA.out
   clear HA
   simp only [octets_Reader_Take.j0] at H
   by_cases c9 : x26_2 = true
   ·subst c9
    have H1 : (some ((⟨#[]⟩ : ByteArray), s0_0, true)) = some (r1, r2, r3) := by rw [if_pos rfl] at H; exact H
    clear H
    have H := H1
    clear H1
    simp only [Option.some.injEq, Prod.mk.injEq] at H
    obtain ⟨rfl, rfl, rfl⟩ := H
    obtain ⟨HGz10, hgz10⟩ := HI0.out
    have hcz10_0 := cellS139_0 HGz10
    have hcz10_1 := cellS139_1 HGz10
    have hfz10_0 := blk_frozen HGz10 0
    have hfz10_1 := blk_frozen HGz10 1
    clear HGz10 hgz10
    go_wp2
    go_ret
    exact ⟨er_, by repeat (first | (with_reducible first | exact HI0.out | apply IsS139.alloc | apply IsS139.drewN | apply IsS139.drew | apply IsS139.set_0 | apply IsS139.set_1) | exact HI0.out), bs_ (IsS139.ge HI0.out), hk_⟩
   replace c9 := Bool.eq_false_iff.mpr c9
   subst c9
   have H1 : (if 0 ≤ a1 then (if a1 ≤ (s0_0.size : Int) then (some (s0_0.extract 0 (a1 : Int).toNat, s0_0.extract (a1 : Int).toNat s0_0.size, s0_1)) else (none)) else (none)) = some (r1, r2, r3) := by rw [if_neg (show ¬ (false = true) by decide)] at H; exact H
   clear H
   have H := H1
   clear H1
   revert H; refine ne_ fun c11 c11b0 c11b1 => ne_ fun c12 c12b0 c12b1 H => ?_
   clear c11 c12
   have c13b0 := eq_true (ae_ : 0 ≤ a1)
   have c14b0 := eq_true (ae_ : a1 ≤ (s0_0.size : Int))
   simp only [Option.some.injEq, Prod.mk.injEq] at H
   obtain ⟨rfl, rfl, rfl⟩ := H
   obtain ⟨HGz15, hgz15⟩ := HI0.out
   have hcz15_0 := cellS139_0 HGz15
   have hcz15_1 := cellS139_1 HGz15
   have hfz15_0 := blk_frozen HGz15 0
   have hfz15_1 := blk_frozen HGz15 1
   clear HGz15 hgz15
   go_wp2
   go_ret
   exact ⟨er_, by repeat (first | (with_reducible first | exact HI0.out | apply IsS139.alloc | apply IsS139.drewN | apply IsS139.drew | apply IsS139.set_0 | apply IsS139.set_1) | exact HI0.out), bs_ (IsS139.ge HI0.out), hk_⟩

/-! ### octets_Reader_number: function 102 -/
def octets_Reader_number.l0 : Nat → Int → List Int → Int → Int → ByteArray → Bool → Option (Int × ByteArray × Bool)
 | 0, _, _, _, _, _, _ => none
 | k + 1, x5, x11, x12, x13, x1000, x1001 => if x13 < x12 then (if 0 ≤ x13 then (if x13 < (x11.length : Int) then (octets_Reader_number.l0 k (Go.bits .or .i64 (wrap64 (x5 * 256)) (wrap64 (rd x11 x13))) x11 x12 (wrap64 (x13 + 1)) x1000 x1001) else (none)) else (none)) else (some (x5, x1000, x1001))
def octets_Reader_number.f (k : Nat) (s0_0 : ByteArray) (s0_1 : Bool) (a1 : Int) : Option (Int × ByteArray × Bool) := (octets_Reader_Take.f k s0_0 s0_1 a1).bind fun bt486 => (if bt486.1.size ≤ 9223372036854775807 then ((some (bytesOf bt486.1 : List Int)).bind fun y489 => (octets_Reader_number.l0 k 0 y489 (y489.length : Int) 0 bt486.2.1 bt486.2.2)) else (none))
theorem octets_Reader_number.mono_l : ∀ k, (∀ y0 y1 y2 y3 y4 y5, LeO (octets_Reader_number.l0 k y0 y1 y2 y3 y4 y5) (octets_Reader_number.l0 (k + 1) y0 y1 y2 y3 y4 y5))
 | 0 => fun _ _ _ _ _ _ r h => by simp [octets_Reader_number.l0] at h
 | k + 1 => by
  have ih0 := octets_Reader_number.mono_l k
  ·intro y0 y1 y2 y3 y4 y5
   unfold octets_Reader_number.l0
   repeat' first
   | (with_reducible exact ih0 _ _ _ _ _ _)
   | (with_reducible exact octets_Reader_Take.mono _ _ _ _)
   | (with_reducible exact LeO.refl _)
   | (with_reducible exact LeO.none _)
   | (with_reducible refine LeO.ite ?_ ?_)
   | (with_reducible refine LeO.bind ?_ (fun _ => ?_))
   | exact ih0 _ _ _ _ _ _
   | exact octets_Reader_Take.mono _ _ _ _
   | exact LeO.none _
   | refine LeO.ite ?_ ?_
   | refine LeO.bind ?_ (fun _ => ?_)
theorem octets_Reader_number.mono : ∀ a0 a1 a2 k, LeO (octets_Reader_number.f k a0 a1 a2) (octets_Reader_number.f (k + 1) a0 a1 a2) := by
 intro a0 a1 a2 k
 have ih0 := octets_Reader_number.mono_l k
 unfold octets_Reader_number.f
 repeat' first
  | (with_reducible exact ih0 _ _ _ _ _ _)
  | (with_reducible exact octets_Reader_Take.mono _ _ _ _)
  | (with_reducible exact LeO.refl _)
  | (with_reducible exact LeO.none _)
  | (with_reducible refine LeO.ite ?_ ?_)
  | (with_reducible refine LeO.bind ?_ (fun _ => ?_))
  | exact ih0 _ _ _ _ _ _
  | exact octets_Reader_Take.mono _ _ _ _
  | exact LeO.none _
  | refine LeO.ite ?_ ?_
  | refine LeO.bind ?_ (fun _ => ?_)
set_option maxHeartbeats 64000000 in
set_option maxRecDepth 100000 in
theorem octets_Reader_number.calls (k : Nat) (g : Nat) (s0_0 : ByteArray) (s0_1 : Bool) (a1 : Int) (r1 : Int) (r2 : ByteArray) (r3 : Bool) (w0 w : World) (hI : IsS139 w0 w g s0_0 s0_1) (hB : Below w0.heap.size w0 w) (h : octets_Reader_number.f k s0_0 s0_1 a1 = some (r1, r2, r3)) :
 Calls Tryz.prog 102 #[.pointer (some ⟨g, 0, none⟩), .int .i64 a1] w fun e w' => e = .returned (.int .i64 r1) ∧ IsS139 w0 w' g r2 r3 ∧ Below w0.heap.size w0 w' ∧ KeepBut w w' g none := by
 have HI0 := Aside0.mk hI
 have HK := Aside0.mk (KeepBut.refl w g none)
 have HL := Aside0.mk hB.size
 clear hI
 have HW0 := Aside0.mk hB.size
 have HB := Aside0.mk hB
 clear hB
 have H : ((octets_Reader_Take.f k s0_0 s0_1 a1).bind fun bt486 => (if bt486.1.size ≤ 9223372036854775807 then ((some (bytesOf bt486.1 : List Int)).bind fun y489 => (octets_Reader_number.l0 k 0 y489 (y489.length : Int) 0 bt486.2.1 bt486.2.2)) else (none))) = some (r1, r2, r3) := h
 clear h
 replace H := ob_ H
 obtain ⟨⟨t486, t487, t488⟩, A30, H⟩ := H
 replace H : (if t486.size ≤ 9223372036854775807 then ((some (bytesOf t486 : List Int)).bind fun y489 => (octets_Reader_number.l0 k 0 y489 (y489.length : Int) 0 t487 t488)) else (none)) = some (r1, r2, r3) := H
 have A3 := Aside0.mk A30
 clear A30
 revert H; refine ne_ fun c4 c4b0 c4b1 => oy_ fun y489 Ny489 H => ?_
 try have c4b2 : (9223372036854775807 < t486.size) = False := eq_false (Nat.not_lt.2 c4)
 clear c4
 have H' := Aside0.mk H
 clear H
 go_enter Tryz.func102, Tryz.ntmps102
 go_wp2_with (first | ((with_reducible refine gate_callee (f := 71) rfl ?_); refine gL_ 10 Tryz.func71 #[.pointer (some ⟨g, 0, none⟩), .int .i64 a1] ?_; (with_reducible refine (octets_Reader_Take.calls k g s0_0 s0_1 a1 t486 t487 t488 w0 _ ?side1 ?side2 A3.out).mono ?_); (case side1 => repeat (first | (with_reducible first | exact HI0.out | apply IsS139.alloc | apply IsS139.drewN | apply IsS139.drew | apply IsS139.set_0 | apply IsS139.set_1) | exact HI0.out)); (case side2 => repeat (first | (with_reducible first | exact HB.out | apply lA_ | apply lN_ | apply lD_ | refine lS_ ?_ (IsS139.ge HI0.out)) | exact HB.out)); rintro e w5 ⟨rfl, hi, hb, hk⟩; refine ⟨_, rfl, ?_⟩; replace HI0 := Aside0.mk (hi); replace HB := Aside0.mk (hb); replace HK := Aside0.mk (KeepBut.trans hk_ hk (.inl rfl)); (try clear hb); (try clear hb2); (try clear hk); (try clear hi)) | ((with_reducible refine gate_dst (N := 11) rfl ?_); refine conv_event (P := Tryz.prog) rfl (N := 11) rfl 9 39 5 _ rfl t486 rfl Ny489.out Tryz.underlying9 Tryz.underlying39 Tryz.underlying5 (ae_) ?_; intro A492 c492 w6 hR_ hC_ hb; replace HB := Aside0.mk (below_step (bs_ (IsS139.ge HI0.out)) hb); replace HK := Aside0.mk (KeepBut.trans hk_ (KeepBut.of_below hb g none) (.inl rfl)); replace HI0 := Aside0.mk (IsS139.below (by repeat (first | (with_reducible first | exact HI0.out | apply IsS139.alloc | apply IsS139.drewN | apply IsS139.drew | apply IsS139.set_0 | apply IsS139.set_1) | exact HI0.out)) hb); clear hb; have HR492 := Aside0.mk hR_; have HC492 := Aside0.mk hC_; clear hR_ hC_))
 go_loopg [5, 13] k (fun kq v5 v13 w' => ∃ (x5_1 : Int) (x13_1 : Int), v5 = .int .i64 x5_1 ∧ v13 = .int .i64 x13_1 ∧ Aside0 (octets_Reader_number.l0 kq x5_1 y489 (y489.length : Int) x13_1 t487 t488 = some (r1, r2, r3)) ∧ Aside0 (kq ≤ k) ∧ Aside0 (Kd.C (Kd.int .u8) w' A492 y489.length y489) ∧ Aside0 (IsS139 w0 w' g t487 t488) ∧ Aside0 (KeepBut w w' g none) ∧ Aside0 (Below w0.heap.size w0 w'))
 case atStart => exact ⟨(0), (0), vq_, vq_, H', ⟨Nat.le_refl _⟩, ⟨by repeat (first | (with_reducible exact HR492.out) | (with_reducible refine Kd.C_alloc ?_ _) | (with_reducible refine Kd.C_drewN ?_ _) | (with_reducible refine Kd.C_drew ?_) | exact HR492.out)⟩, ⟨by repeat (first | (with_reducible first | exact HI0.out | apply IsS139.alloc | apply IsS139.drewN | apply IsS139.drew | apply IsS139.set_0 | apply IsS139.set_1) | exact HI0.out)⟩, ⟨hk_⟩, ⟨bs_ (IsS139.ge HI0.out)⟩⟩
 case round =>
  clear H'
  (try clear c1); (try clear p2); (try clear c4); (try clear c4b0); (try clear c4b1); (try clear c4b2); (try clear p6)
  obtain ⟨x5_1, x13_1, rfl, rfl, HA, HK1, HR492, HI0, HK, HB⟩ := hrel
  cases gk with
  | zero => exact absurd HA.out (by simp [octets_Reader_number.l0])
  | succ k1 =>
   have H := HA.out
   clear HA
   simp only [octets_Reader_number.l0] at H
   by_cases c7 : x13_1 < (y489.length : Int)
   ·rw [if_pos c7] at H
    have c7b0 : decide (x13_1 < (y489.length : Int)) = true := decide_eq_true c7
    clear c7
    revert H; refine nd_ fun c8 c8b0 => nd_ fun c9 c9b0 H => ?_
    clear c8 c9
    have H' := Aside0.mk H
    clear H
    have p493 : 0 ≤ (x13_1 : Int) := ae_
    have q493 : x13_1 < (y489.length : Int) := ae_
    obtain ⟨ad493, e493, hx493_0⟩ := Kd.at_int (by repeat (first | (with_reducible exact HR492.out) | (with_reducible refine Kd.C_alloc ?_ _) | (with_reducible refine Kd.C_drewN ?_ _) | (with_reducible refine Kd.C_drew ?_) | exact HR492.out)) x13_1 p493 q493
    cases e493
    replace p493 := eq_true p493
    replace q493 := eq_true q493
    go_wp2
    go_roundg k1
    case measure => have := HK1.out; omega
    case rel => exact ⟨(Go.bits .or .i64 (wrap64 (x5_1 * 256)) (wrap64 (rd y489 x13_1))), (wrap64 (x13_1 + 1)), vq_, vq_, H', ⟨by have := HK1.out; omega⟩, ⟨by repeat (first | (with_reducible exact HR492.out) | (with_reducible refine Kd.C_alloc ?_ _) | (with_reducible refine Kd.C_drewN ?_ _) | (with_reducible refine Kd.C_drew ?_) | exact HR492.out)⟩, ⟨by repeat (first | (with_reducible first | exact HI0.out | apply IsS139.alloc | apply IsS139.drewN | apply IsS139.drew | apply IsS139.set_0 | apply IsS139.set_1) | exact HI0.out)⟩, ⟨hk_⟩, ⟨bs_ (IsS139.ge HI0.out)⟩⟩
   rw [if_neg c7] at H
   have c7b0 : decide (x13_1 < (y489.length : Int)) = false := decide_eq_false c7
   clear c7
   simp only [Option.some.injEq, Prod.mk.injEq] at H
   obtain ⟨rfl, rfl, rfl⟩ := H
   go_wp2
   go_ret
   exact ⟨er_, by repeat (first | (with_reducible first | exact HI0.out | apply IsS139.alloc | apply IsS139.drewN | apply IsS139.drew | apply IsS139.set_0 | apply IsS139.set_1) | exact HI0.out), bs_ (IsS139.ge HI0.out), hk_⟩

/-! ### octets_Reader_Short: function 69 -/
def octets_Reader_Short.f (k : Nat) (s0_0 : ByteArray) (s0_1 : Bool) : Option (Int × ByteArray × Bool) := (octets_Reader_number.f k s0_0 s0_1 2).bind fun bt494 => (some (bt494.1, bt494.2.1, bt494.2.2))
theorem octets_Reader_Short.mono : ∀ a0 a1 k, LeO (octets_Reader_Short.f k a0 a1) (octets_Reader_Short.f (k + 1) a0 a1) := by
 intro a0 a1 k
 unfold octets_Reader_Short.f
 repeat' first
  | (with_reducible exact octets_Reader_number.mono _ _ _ _)
  | (with_reducible exact LeO.refl _)
  | (with_reducible exact LeO.none _)
  | (with_reducible refine LeO.ite ?_ ?_)
  | (with_reducible refine LeO.bind ?_ (fun _ => ?_))
  | exact octets_Reader_number.mono _ _ _ _
  | exact LeO.none _
  | refine LeO.ite ?_ ?_
  | refine LeO.bind ?_ (fun _ => ?_)
set_option maxHeartbeats 64000000 in
set_option maxRecDepth 100000 in
theorem octets_Reader_Short.calls (k : Nat) (g : Nat) (s0_0 : ByteArray) (s0_1 : Bool) (r1 : Int) (r2 : ByteArray) (r3 : Bool) (w0 w : World) (hI : IsS139 w0 w g s0_0 s0_1) (hB : Below w0.heap.size w0 w) (h : octets_Reader_Short.f k s0_0 s0_1 = some (r1, r2, r3)) :
 Calls Tryz.prog 69 #[.pointer (some ⟨g, 0, none⟩)] w fun e w' => e = .returned (.int .i64 r1) ∧ IsS139 w0 w' g r2 r3 ∧ Below w0.heap.size w0 w' ∧ KeepBut w w' g none := by
 have HI0 := Aside0.mk hI
 have HK := Aside0.mk (KeepBut.refl w g none)
 have HL := Aside0.mk hB.size
 clear hI
 have HW0 := Aside0.mk hB.size
 have HB := Aside0.mk hB
 clear hB
 have H : ((octets_Reader_number.f k s0_0 s0_1 2).bind fun bt494 => (some (bt494.1, bt494.2.1, bt494.2.2))) = some (r1, r2, r3) := h
 clear h
 replace H := ob_ H
 obtain ⟨⟨t494, t495, t496⟩, A20, H⟩ := H
 replace H : (some (t494, t495, t496)) = some (r1, r2, r3) := H
 have A2 := Aside0.mk A20
 clear A20
 simp only [Option.some.injEq, Prod.mk.injEq] at H
 obtain ⟨rfl, rfl, rfl⟩ := H
 go_enter Tryz.func69, Tryz.ntmps69
 go_wp2_with (first | ((with_reducible refine gate_callee (f := 102) rfl ?_); refine gL_ 4 Tryz.func102 #[.pointer (some ⟨g, 0, none⟩), .int .i64 2] ?_; (with_reducible refine (octets_Reader_number.calls k g s0_0 s0_1 2 t494 t495 t496 w0 _ ?side1 ?side2 A2.out).mono ?_); (case side1 => repeat (first | (with_reducible first | exact HI0.out | apply IsS139.alloc | apply IsS139.drewN | apply IsS139.drew | apply IsS139.set_0 | apply IsS139.set_1) | exact HI0.out)); (case side2 => repeat (first | (with_reducible first | exact HB.out | apply lA_ | apply lN_ | apply lD_ | refine lS_ ?_ (IsS139.ge HI0.out)) | exact HB.out)); rintro e w3 ⟨rfl, hi, hb, hk⟩; refine ⟨_, rfl, ?_⟩; replace HI0 := Aside0.mk (hi); replace HB := Aside0.mk (hb); replace HK := Aside0.mk (KeepBut.trans hk_ hk (.inl rfl)); clear hb hk hi))
 go_ret
 exact ⟨er_, by repeat (first | (with_reducible first | exact HI0.out | apply IsS139.alloc | apply IsS139.drewN | apply IsS139.drew | apply IsS139.set_0 | apply IsS139.set_1) | exact HI0.out), bs_ (IsS139.ge HI0.out), hk_⟩

/-! ### octets_Reader_Good: function 103 -/
def octets_Reader_Good.f (s0_0 : ByteArray) (s0_1 : Bool) : Option (Bool × ByteArray × Bool) := some (!s0_1, s0_0, s0_1)
set_option maxHeartbeats 64000000 in
set_option maxRecDepth 100000 in
theorem octets_Reader_Good.calls (g : Nat) (s0_0 : ByteArray) (s0_1 : Bool) (r1 : Bool) (r2 : ByteArray) (r3 : Bool) (w0 w : World) (hI : IsS139 w0 w g s0_0 s0_1) (hB : Below w0.heap.size w0 w) (h : octets_Reader_Good.f s0_0 s0_1 = some (r1, r2, r3)) :
 Calls Tryz.prog 103 #[.pointer (some ⟨g, 0, none⟩)] w fun e w' => e = .returned (.bool r1) ∧ IsS139 w0 w' g r2 r3 ∧ Below w0.heap.size w0 w' ∧ KeepBut w w' g none := by
 have HI0 := Aside0.mk hI
 have HK := Aside0.mk (KeepBut.refl w g none)
 have HL := Aside0.mk hB.size
 clear hI
 have HW0 := Aside0.mk hB.size
 have HB := Aside0.mk hB
 clear hB
 have H : (some (!s0_1, s0_0, s0_1)) = some (r1, r2, r3) := h
 clear h
 simp only [Option.some.injEq, Prod.mk.injEq] at H
 obtain ⟨rfl, rfl, rfl⟩ := H
 obtain ⟨HGz2, hgz2⟩ := HI0.out
 have hcz2_0 := cellS139_0 HGz2
 have hcz2_1 := cellS139_1 HGz2
 have hfz2_0 := blk_frozen HGz2 0
 have hfz2_1 := blk_frozen HGz2 1
 clear HGz2 hgz2
 go_enter Tryz.func103, Tryz.ntmps103
 go_wp2
 go_ret
 exact ⟨er_, by repeat (first | (with_reducible first | exact HI0.out | apply IsS139.alloc | apply IsS139.drewN | apply IsS139.drew | apply IsS139.set_0 | apply IsS139.set_1) | exact HI0.out), bs_ (IsS139.ge HI0.out), hk_⟩

/-! ### octets_Reader_Left: function 70 -/
def octets_Reader_Left.f (s0_0 : ByteArray) (s0_1 : Bool) : Option (Int × ByteArray × Bool) := (octets_Reader_Good.f s0_0 s0_1).bind fun bt497 => (if bt497.1 = true then (some ((bt497.2.1.size : Int), bt497.2.1, bt497.2.2)) else (some (0, bt497.2.1, bt497.2.2)))
set_option maxHeartbeats 64000000 in
set_option maxRecDepth 100000 in
theorem octets_Reader_Left.calls (g : Nat) (s0_0 : ByteArray) (s0_1 : Bool) (r1 : Int) (r2 : ByteArray) (r3 : Bool) (w0 w : World) (hI : IsS139 w0 w g s0_0 s0_1) (hB : Below w0.heap.size w0 w) (h : octets_Reader_Left.f s0_0 s0_1 = some (r1, r2, r3)) :
 Calls Tryz.prog 70 #[.pointer (some ⟨g, 0, none⟩)] w fun e w' => e = .returned (.int .i64 r1) ∧ IsS139 w0 w' g r2 r3 ∧ Below w0.heap.size w0 w' ∧ KeepBut w w' g none := by
 have HI0 := Aside0.mk hI
 have HK := Aside0.mk (KeepBut.refl w g none)
 have HL := Aside0.mk hB.size
 clear hI
 have HW0 := Aside0.mk hB.size
 have HB := Aside0.mk hB
 clear hB
 have H : ((octets_Reader_Good.f s0_0 s0_1).bind fun bt497 => (if bt497.1 = true then (some ((bt497.2.1.size : Int), bt497.2.1, bt497.2.2)) else (some (0, bt497.2.1, bt497.2.2)))) = some (r1, r2, r3) := h
 clear h
 replace H := ob_ H
 obtain ⟨⟨t497, t498, t499⟩, A20, H⟩ := H
 replace H : (if t497 = true then (some ((t498.size : Int), t498, t499)) else (some (0, t498, t499))) = some (r1, r2, r3) := H
 have A2 := Aside0.mk A20
 clear A20
 by_cases c3 : t497 = true
 ·subst c3
  have H1 : (some ((t498.size : Int), t498, t499)) = some (r1, r2, r3) := by rw [if_pos rfl] at H; exact H
  clear H
  have H := H1
  clear H1
  simp only [Option.some.injEq, Prod.mk.injEq] at H
  obtain ⟨rfl, rfl, rfl⟩ := H
  go_enter Tryz.func70, Tryz.ntmps70
  go_wp2_with (first | ((with_reducible refine gate_callee (f := 103) rfl ?_); refine gL_ 4 Tryz.func103 #[.pointer (some ⟨g, 0, none⟩)] ?_; (with_reducible refine (octets_Reader_Good.calls g s0_0 s0_1 true t498 t499 w0 _ ?side1 ?side2 A2.out).mono ?_); (case side1 => repeat (first | (with_reducible first | exact HI0.out | apply IsS139.alloc | apply IsS139.drewN | apply IsS139.drew | apply IsS139.set_0 | apply IsS139.set_1) | exact HI0.out)); (case side2 => repeat (first | (with_reducible first | exact HB.out | apply lA_ | apply lN_ | apply lD_ | refine lS_ ?_ (IsS139.ge HI0.out)) | exact HB.out)); rintro e w4 ⟨rfl, hi, hb, hk⟩; refine ⟨_, rfl, ?_⟩; replace HI0 := Aside0.mk (hi); replace HB := Aside0.mk (hb); replace HK := Aside0.mk (KeepBut.trans hk_ hk (.inl rfl)); clear hb hk hi; obtain ⟨HGz5, hgz5⟩ := HI0.out; have hcz5_0 := cellS139_0 HGz5; have hcz5_1 := cellS139_1 HGz5; have hfz5_0 := blk_frozen HGz5 0; have hfz5_1 := blk_frozen HGz5 1; clear HGz5 hgz5))
  go_ret
  exact ⟨er_, by repeat (first | (with_reducible first | exact HI0.out | apply IsS139.alloc | apply IsS139.drewN | apply IsS139.drew | apply IsS139.set_0 | apply IsS139.set_1) | exact HI0.out), bs_ (IsS139.ge HI0.out), hk_⟩
 replace c3 := Bool.eq_false_iff.mpr c3
 subst c3
 have H1 : (some (0, t498, t499)) = some (r1, r2, r3) := by rw [if_neg (show ¬ (false = true) by decide)] at H; exact H
 clear H
 have H := H1
 clear H1
 simp only [Option.some.injEq, Prod.mk.injEq] at H
 obtain ⟨rfl, rfl, rfl⟩ := H
 go_enter Tryz.func70, Tryz.ntmps70
 go_wp2_with (first | ((with_reducible refine gate_callee (f := 103) rfl ?_); refine gL_ 4 Tryz.func103 #[.pointer (some ⟨g, 0, none⟩)] ?_; (with_reducible refine (octets_Reader_Good.calls g s0_0 s0_1 false t498 t499 w0 _ ?side1 ?side2 A2.out).mono ?_); (case side1 => repeat (first | (with_reducible first | exact HI0.out | apply IsS139.alloc | apply IsS139.drewN | apply IsS139.drew | apply IsS139.set_0 | apply IsS139.set_1) | exact HI0.out)); (case side2 => repeat (first | (with_reducible first | exact HB.out | apply lA_ | apply lN_ | apply lD_ | refine lS_ ?_ (IsS139.ge HI0.out)) | exact HB.out)); rintro e w6 ⟨rfl, hi, hb, hk⟩; refine ⟨_, rfl, ?_⟩; replace HI0 := Aside0.mk (hi); replace HB := Aside0.mk (hb); replace HK := Aside0.mk (KeepBut.trans hk_ hk (.inl rfl)); clear hb hk hi))
 go_ret
 exact ⟨er_, by repeat (first | (with_reducible first | exact HI0.out | apply IsS139.alloc | apply IsS139.drewN | apply IsS139.drew | apply IsS139.set_0 | apply IsS139.set_1) | exact HI0.out), bs_ (IsS139.ge HI0.out), hk_⟩

/-! ### key_parts: function 40 -/
mutual
def key_parts.j0 : Nat → ByteArray → Int → Bool → Option (Int × List ByteArray × List ByteArray × Bool)
 | 0, _, _, _ => none
 | k + 1, x0, x6, x32 => if x32 = true then (some (0, ([] : List ByteArray), ([] : List ByteArray), false)) else ((octets_Read.f x0).bind fun bt500 => ((octets_Reader_Short.f k bt500.1 bt500.2).bind fun bt503 => (key_parts.l0 k x6 bt503.1 ([] : List ByteArray) bt503.2.1 bt503.2.2)))
def key_parts.l0 : Nat → Int → Int → List ByteArray → ByteArray → Bool → Option (Int × List ByteArray × List ByteArray × Bool)
 | 0, _, _, _, _, _ => none
 | k + 1, x6, x8, x9, x503000, x503001 => (octets_Reader_Left.f x503000 x503001).bind fun bt506 => (if bt506.1 > 0 then ((octets_Reader_Take.f k bt506.2.1 bt506.2.2 32).bind fun bt509 => (if x9.length < 8796093022208 then (key_parts.l0 k x6 x8 (x9 ++ [bt509.1]) bt509.2.1 bt509.2.2) else (none))) else (if 0 ≤ x6 then (if x8 ≥ (shl .i64 1 x6) then (some (0, ([] : List ByteArray), ([] : List ByteArray), false)) else (if 67 ≤ x9.length then (some (x8, x9.take 67, x9.drop 67, true)) else (none))) else (none)))
end
def key_parts.f (k : Nat) (a0 : ByteArray) : Option (Int × List ByteArray × List ByteArray × Bool) := if (a0.size : Int) < 2 then (key_parts.j0 k a0 (wrap64 ((wrap64 (Int.tdiv (wrap64 ((a0.size : Int) - 2)) 32)) - 67)) true) else (if (Int.tmod (wrap64 ((a0.size : Int) - 2)) 32) = 0 then (if (wrap64 ((wrap64 (Int.tdiv (wrap64 ((a0.size : Int) - 2)) 32)) - 67)) < 0 then (key_parts.j0 k a0 (wrap64 ((wrap64 (Int.tdiv (wrap64 ((a0.size : Int) - 2)) 32)) - 67)) true) else (key_parts.j0 k a0 (wrap64 ((wrap64 (Int.tdiv (wrap64 ((a0.size : Int) - 2)) 32)) - 67)) (decide ((wrap64 ((wrap64 (Int.tdiv (wrap64 ((a0.size : Int) - 2)) 32)) - 67)) > 4)))) else (key_parts.j0 k a0 (wrap64 ((wrap64 (Int.tdiv (wrap64 ((a0.size : Int) - 2)) 32)) - 67)) true))
theorem key_parts.mono_l : ∀ k, (∀ y0 y1 y2, LeO (key_parts.j0 k y0 y1 y2) (key_parts.j0 (k + 1) y0 y1 y2)) ∧ (∀ y0 y1 y2 y3 y4, LeO (key_parts.l0 k y0 y1 y2 y3 y4) (key_parts.l0 (k + 1) y0 y1 y2 y3 y4))
 | 0 => ⟨fun _ _ _ r h => by simp [key_parts.j0] at h, fun _ _ _ _ _ r h => by simp [key_parts.l0] at h⟩
 | k + 1 => by
  obtain ⟨ih0, ih1⟩ := key_parts.mono_l k
  refine ⟨?_, ?_⟩ <;> intros <;> (first | unfold key_parts.j0 | unfold key_parts.l0) <;> repeat' first
  | (with_reducible exact ih0 _ _ _)
  | (with_reducible exact ih1 _ _ _ _ _)
  | (with_reducible exact octets_Reader_Short.mono _ _ _)
  | (with_reducible exact octets_Reader_Take.mono _ _ _ _)
  | (with_reducible exact LeO.refl _)
  | (with_reducible exact LeO.none _)
  | (with_reducible refine LeO.ite ?_ ?_)
  | (with_reducible refine LeO.bind ?_ (fun _ => ?_))
  | exact ih0 _ _ _
  | exact ih1 _ _ _ _ _
  | exact octets_Reader_Short.mono _ _ _
  | exact octets_Reader_Take.mono _ _ _ _
  | exact LeO.none _
  | refine LeO.ite ?_ ?_
  | refine LeO.bind ?_ (fun _ => ?_)
theorem key_parts.mono : ∀ a0 k, LeO (key_parts.f k a0) (key_parts.f (k + 1) a0) := by
 intro a0 k
 obtain ⟨ih0, ih1⟩ := key_parts.mono_l k
 unfold key_parts.f
 repeat' first
  | (with_reducible exact ih0 _ _ _)
  | (with_reducible exact ih1 _ _ _ _ _)
  | (with_reducible exact octets_Reader_Short.mono _ _ _)
  | (with_reducible exact octets_Reader_Take.mono _ _ _ _)
  | (with_reducible exact LeO.refl _)
  | (with_reducible exact LeO.none _)
  | (with_reducible refine LeO.ite ?_ ?_)
  | (with_reducible refine LeO.bind ?_ (fun _ => ?_))
  | exact ih0 _ _ _
  | exact ih1 _ _ _ _ _
  | exact octets_Reader_Short.mono _ _ _
  | exact octets_Reader_Take.mono _ _ _ _
  | exact LeO.none _
  | refine LeO.ite ?_ ?_
  | refine LeO.bind ?_ (fun _ => ?_)
set_option maxHeartbeats 64000000 in
set_option maxRecDepth 100000 in
theorem key_parts.calls (k : Nat) (a0 : ByteArray) (r1 : Int) (r2 : List ByteArray) (r3 : List ByteArray) (r4 : Bool) (w : World) (h : key_parts.f k a0 = some (r1, r2, r3, r4)) :
 Calls Tryz.prog 40 #[.string a0] w fun e w' => ∃ (A1_ A2_ : Option Addr) (c1_ c2_ : Nat), e = .returned (.tuple #[.int .i64 r1, .slice A1_ r2.length c1_, .slice A2_ r3.length c2_, .bool r4]) ∧ Kd.C Kd.string w' A1_ r2.length r2 ∧ r2.length ≤ c1_ ∧ Kd.C Kd.string w' A2_ r3.length r3 ∧ r3.length ≤ c2_ ∧ Below w.heap.size w w' := by
 have HB := Aside0.mk (Below.refl w.heap.size w)
 have H : (if (a0.size : Int) < 2 then (key_parts.j0 k a0 (wrap64 ((wrap64 (Int.tdiv (wrap64 ((a0.size : Int) - 2)) 32)) - 67)) true) else (if (Int.tmod (wrap64 ((a0.size : Int) - 2)) 32) = 0 then (if (wrap64 ((wrap64 (Int.tdiv (wrap64 ((a0.size : Int) - 2)) 32)) - 67)) < 0 then (key_parts.j0 k a0 (wrap64 ((wrap64 (Int.tdiv (wrap64 ((a0.size : Int) - 2)) 32)) - 67)) true) else (key_parts.j0 k a0 (wrap64 ((wrap64 (Int.tdiv (wrap64 ((a0.size : Int) - 2)) 32)) - 67)) (decide ((wrap64 ((wrap64 (Int.tdiv (wrap64 ((a0.size : Int) - 2)) 32)) - 67)) > 4)))) else (key_parts.j0 k a0 (wrap64 ((wrap64 (Int.tdiv (wrap64 ((a0.size : Int) - 2)) 32)) - 67)) true))) = some (r1, r2, r3, r4) := h
 clear h
 have HC2 := Aside0.mk H
 clear H
 go_enter Tryz.func40, Tryz.ntmps40
 go_upto_region 2 with (fail)
 repeat (go_quiet (fail); go_upto_region 2 with (fail))
 go_cut [32] (fun v32 wc => ∃ (kq : Nat) (x32_1 : Bool), v32 = .bool x32_1 ∧ Aside0 (key_parts.j0 kq a0 (wrap64 ((wrap64 (Int.tdiv (wrap64 ((a0.size : Int) - 2)) 32)) - 67)) x32_1 = some (r1, r2, r3, r4)) ∧ Aside0 (kq ≤ k) ∧ Aside0 (Below w.heap.size w wc))
 case first =>
  have H := HC2.out
  clear HC2
  by_cases c3 : (a0.size : Int) < 2
  ·rw [if_pos c3] at H
   have c3b0 : decide ((a0.size : Int) < 2) = true := decide_eq_true c3
   have c3b1 : decide (a0.size < 2) = true := decide_eq_true (by omega)
   clear c3
   (first | rw [c3b0] | (simp only [i64_w, i32_w]; rw [c3b0]) | skip)
   have H' := Aside0.mk H
   clear H
   go_wp2
   repeat (go_quiet (fail); try go_wp2)
   go_meet
   case rel => exact ⟨_, (true), vq_, H', ⟨by first | omega | exact Nat.le_refl _⟩, ⟨bl_⟩⟩
  rw [if_neg c3] at H
  have c3b0 : decide ((a0.size : Int) < 2) = false := decide_eq_false c3
  have c3b1 : decide (a0.size < 2) = false := decide_eq_false (by omega)
  clear c3
  (first | rw [c3b0] | (simp only [i64_w, i32_w]; rw [c3b0]) | skip)
  by_cases c4 : (Int.tmod (wrap64 ((a0.size : Int) - 2)) 32) = 0
  ·rw [if_pos c4] at H
   have c4b0 : ((Int.tmod (wrap64 ((a0.size : Int) - 2)) 32) == 0) = true := beq_iff_eq.mpr c4
   have c4b1 : ((Int.tmod (wrap64 ((a0.size : Int) - 2)) 32) != 0) = false := bne_eq_false_iff_eq.mpr c4
   clear c4
   by_cases c5 : (wrap64 ((wrap64 (Int.tdiv (wrap64 ((a0.size : Int) - 2)) 32)) - 67)) < 0
   ·rw [if_pos c5] at H
    have c5b0 : decide ((wrap64 ((wrap64 (Int.tdiv (wrap64 ((a0.size : Int) - 2)) 32)) - 67)) < 0) = true := decide_eq_true c5
    clear c5
    have H' := Aside0.mk H
    clear H
    go_wp2
    repeat (go_quiet (fail); try go_wp2)
    go_meet
    case rel => exact ⟨_, (true), vq_, H', ⟨by first | omega | exact Nat.le_refl _⟩, ⟨bl_⟩⟩
   rw [if_neg c5] at H
   have c5b0 : decide ((wrap64 ((wrap64 (Int.tdiv (wrap64 ((a0.size : Int) - 2)) 32)) - 67)) < 0) = false := decide_eq_false c5
   clear c5
   have H' := Aside0.mk H
   clear H
   go_wp2
   repeat (go_quiet (fail); try go_wp2)
   go_meet
   case rel => exact ⟨_, (decide ((wrap64 ((wrap64 (Int.tdiv (wrap64 ((a0.size : Int) - 2)) 32)) - 67)) > 4)), vq_, H', ⟨by first | omega | exact Nat.le_refl _⟩, ⟨bl_⟩⟩
  rw [if_neg c4] at H
  have c4b0 : ((Int.tmod (wrap64 ((a0.size : Int) - 2)) 32) == 0) = false := beq_eq_false_iff_ne.mpr c4
  have c4b1 : ((Int.tmod (wrap64 ((a0.size : Int) - 2)) 32) != 0) = true := bne_iff_ne.mpr c4
  have H' := Aside0.mk H
  clear H
  go_wp2
  repeat (go_quiet (fail); try go_wp2)
  go_meet
  case rel => exact ⟨_, (true), vq_, H', ⟨by first | omega | exact Nat.le_refl _⟩, ⟨bl_⟩⟩
 case rest =>
  clear HC2
  obtain ⟨kq, x32_1, rfl, HA, HJ1, HB⟩ := hcut
  cases kq with
  | zero => exact absurd HA.out (by simp [key_parts.j0])
  | succ kj1 =>
   have H := HA.out
   clear HA
   simp only [key_parts.j0] at H
   by_cases c6 : x32_1 = true
   ·subst c6
    have H1 : (some (0, ([] : List ByteArray), ([] : List ByteArray), false)) = some (r1, r2, r3, r4) := by rw [if_pos rfl] at H; exact H
    clear H
    have H := H1
    clear H1
    simp only [Option.some.injEq, Prod.mk.injEq] at H
    obtain ⟨rfl, rfl, rfl, rfl⟩ := H
    go_wp2
    repeat (go_quiet (fail); try go_wp2)
    refine bodyPost_ret (results_list (rs := [.tmp 2, .tmp 3, .tmp 4, .tmp 5]) rfl (by simp) (.tmp (.tmp (.tmp (.tmp .nil))))) rfl ?_
    exact ⟨none, none, 0, 0, er_, Kd.C_nil _ _, Nat.le_refl _, Kd.C_nil _ _, Nat.le_refl _, bl_⟩
   replace c6 := Bool.eq_false_iff.mpr c6
   subst c6
   have H1 : ((octets_Read.f a0).bind fun bt500 => ((octets_Reader_Short.f kj1 bt500.1 bt500.2).bind fun bt503 => (key_parts.l0 kj1 (wrap64 ((wrap64 (Int.tdiv (wrap64 ((a0.size : Int) - 2)) 32)) - 67)) bt503.1 ([] : List ByteArray) bt503.2.1 bt503.2.2))) = some (r1, r2, r3, r4) := by rw [if_neg (show ¬ (false = true) by decide)] at H; exact H
   clear H
   have H := H1
   clear H1
   replace H := ob_ H
   obtain ⟨⟨t500, t501⟩, A70, H⟩ := H
   replace H : ((octets_Reader_Short.f kj1 t500 t501).bind fun bt503 => (key_parts.l0 kj1 (wrap64 ((wrap64 (Int.tdiv (wrap64 ((a0.size : Int) - 2)) 32)) - 67)) bt503.1 ([] : List ByteArray) bt503.2.1 bt503.2.2)) = some (r1, r2, r3, r4) := H
   have A7 := Aside0.mk A70
   clear A70
   replace H := ob_ H
   obtain ⟨⟨t503, t504, t505⟩, A80, H⟩ := H
   replace H : (key_parts.l0 kj1 (wrap64 ((wrap64 (Int.tdiv (wrap64 ((a0.size : Int) - 2)) 32)) - 67)) t503 ([] : List ByteArray) t504 t505) = some (r1, r2, r3, r4) := H
   have A8 := Aside0.mk A80
   clear A80
   have H' := Aside0.mk H
   clear H
   go_wp2_with (first | (go_at_call 68; (with_reducible refine (octets_Read.calls a0 t500 t501 w _ ?side1 A7.out).mono ?_); (case side1 => repeat (first | (with_reducible first | exact HB.out | apply lA_ | apply lN_ | apply lD_) | exact HB.out)); rintro e w9 ⟨g502, rfl, hi, hb, hb2⟩; have HI502 := Aside0.mk (hi); replace HB := Aside0.mk (hb); clear hb hb2 hi) | (go_at_call 69; (with_reducible refine (octets_Reader_Short.calls kj1 g502 t500 t501 t503 t504 t505 w _ ?side1 ?side2 A8.out).mono ?_); (case side1 => repeat (first | (with_reducible first | exact HI502.out | apply IsS139.alloc | apply IsS139.drewN | apply IsS139.drew | apply IsS139.set_0 | apply IsS139.set_1) | exact HI502.out)); (case side2 => repeat (first | (with_reducible first | exact HB.out | apply lA_ | apply lN_ | apply lD_ | refine lS_ ?_ (IsS139.ge HI502.out)) | exact HB.out)); rintro e w10 ⟨rfl, hi, hb, hk⟩; replace HI502 := Aside0.mk (hi); replace HB := Aside0.mk (hb); clear hb hk hi))
   go_loopg [9] kj1 (fun kq v9 w' => ∃ (x9_2 : List ByteArray) (x503000_2 : ByteArray) (x503001_2 : Bool), Aside0 (key_parts.l0 kq (wrap64 ((wrap64 (Int.tdiv (wrap64 ((a0.size : Int) - 2)) 32)) - 67)) t503 x9_2 x503000_2 x503001_2 = some (r1, r2, r3, r4)) ∧ Aside0 (kq ≤ kj1) ∧ Aside0 (Kd.R Kd.string 9 w' w.heap.size (fun _ => True) v9 x9_2) ∧ Aside0 (IsS139 w w' g502 x503000_2 x503001_2) ∧ Aside0 (Below w.heap.size w w'))
   case atStart => exact ⟨(([] : List ByteArray)), (t504), (t505), H', ⟨Nat.le_refl _⟩, ⟨by first | exact Kd.R_nil _ _ _ _ _ | exact Kd.N_nil _ _ _ _ _ | exact Kd.V_nil _ _ _ _ _ | exact Kd.Q_nil _ _ _ _ _ | exact Kd.S_nil _ _ _ _ _⟩, ⟨by repeat (first | (with_reducible first | exact HI502.out | apply IsS139.alloc | apply IsS139.drewN | apply IsS139.drew | apply IsS139.set_0 | apply IsS139.set_1) | exact HI502.out)⟩, ⟨bs_ (IsS139.ge HI502.out)⟩⟩
   case round =>
    clear H'
    obtain ⟨x9_2, x503000_2, x503001_2, HA, HK2, HO_9, HI502, HB⟩ := hrel
    cases gk with
    | zero => exact absurd HA.out (by simp [key_parts.l0])
    | succ k2 =>
     have H := HA.out
     clear HA
     simp only [key_parts.l0] at H
     replace H := ob_ H
     obtain ⟨⟨t506, t507, t508⟩, A110, H⟩ := H
     replace H : (if t506 > 0 then ((octets_Reader_Take.f k2 t507 t508 32).bind fun bt509 => (if x9_2.length < 8796093022208 then (key_parts.l0 k2 (wrap64 ((wrap64 (Int.tdiv (wrap64 ((a0.size : Int) - 2)) 32)) - 67)) t503 (x9_2 ++ [bt509.1]) bt509.2.1 bt509.2.2) else (none))) else (if 0 ≤ (wrap64 ((wrap64 (Int.tdiv (wrap64 ((a0.size : Int) - 2)) 32)) - 67)) then (if t503 ≥ (shl .i64 1 (wrap64 ((wrap64 (Int.tdiv (wrap64 ((a0.size : Int) - 2)) 32)) - 67))) then (some (0, ([] : List ByteArray), ([] : List ByteArray), false)) else (if 67 ≤ x9_2.length then (some (t503, x9_2.take 67, x9_2.drop 67, true)) else (none))) else (none))) = some (r1, r2, r3, r4) := H
     have A11 := Aside0.mk A110
     clear A110
     by_cases c12 : t506 > 0
     ·rw [if_pos c12] at H
      have c12b0 : decide (0 < t506) = true := decide_eq_true c12
      clear c12
      replace H := ob_ H
      obtain ⟨⟨t509, t510, t511⟩, A130, H⟩ := H
      replace H : (if x9_2.length < 8796093022208 then (key_parts.l0 k2 (wrap64 ((wrap64 (Int.tdiv (wrap64 ((a0.size : Int) - 2)) 32)) - 67)) t503 (x9_2 ++ [t509]) t510 t511) else (none)) = some (r1, r2, r3, r4) := H
      have A13 := Aside0.mk A130
      clear A130
      revert H; refine nc_ fun c14 H => ?_
      have LMc14 := Aside0.mk c14
      clear c14
      generalize e_ : (x9_2 ++ [t509] : List ByteArray) = y512 at H
      have Ny512 := Aside0.mk e_.symm
      clear e_
      have H' := Aside0.mk H
      clear H
      go_wp2_with (first | (go_at_call 70; (with_reducible refine (octets_Reader_Left.calls g502 x503000_2 x503001_2 t506 t507 t508 w _ ?side1 ?side2 A11.out).mono ?_); (case side1 => repeat (first | (with_reducible first | exact HI502.out | apply IsS139.alloc | apply IsS139.drewN | apply IsS139.drew | apply IsS139.set_0 | apply IsS139.set_1) | exact HI502.out)); (case side2 => repeat (first | (with_reducible first | exact HB.out | apply lA_ | apply lN_ | apply lD_ | refine lS_ ?_ (IsS139.ge HI502.out)) | exact HB.out)); rintro e w15 ⟨rfl, hi, hb, hk⟩; replace HB := Aside0.mk (hb); replace HO_9 := Aside0.mk (Kd.R_mono (Kd.R_keep (IsS139.apart (show IsS139 w _ g502 x503000_2 x503001_2 from by repeat (first | (with_reducible first | exact HI502.out | apply IsS139.alloc | apply IsS139.drewN | apply IsS139.drew | apply IsS139.set_0 | apply IsS139.set_1) | exact HI502.out)) (mv_ HO_9.out) (by decide)) hk (fun _ h => h.2)) (fun _ h => h.1)); replace HI502 := Aside0.mk (hi); clear hb hk hi) | (go_at_call 71; (with_reducible refine (octets_Reader_Take.calls k2 g502 t507 t508 32 t509 t510 t511 w _ ?side1 ?side2 A13.out).mono ?_); (case side1 => repeat (first | (with_reducible first | exact HI502.out | apply IsS139.alloc | apply IsS139.drewN | apply IsS139.drew | apply IsS139.set_0 | apply IsS139.set_1) | exact HI502.out)); (case side2 => repeat (first | (with_reducible first | exact HB.out | apply lA_ | apply lN_ | apply lD_ | refine lS_ ?_ (IsS139.ge HI502.out)) | exact HB.out)); rintro e w16 ⟨rfl, hi, hb, hk⟩; replace HB := Aside0.mk (hb); replace HO_9 := Aside0.mk (Kd.R_mono (Kd.R_keep (IsS139.apart (show IsS139 w _ g502 t507 t508 from by repeat (first | (with_reducible first | exact HI502.out | apply IsS139.alloc | apply IsS139.drewN | apply IsS139.drew | apply IsS139.set_0 | apply IsS139.set_1) | exact HI502.out)) (mv_ HO_9.out) (by decide)) hk (fun _ h => h.2)) (fun _ h => h.1)); replace HI502 := Aside0.mk (hi); clear hb hk hi) | ((with_reducible refine gate_builtin (b := .append) (xs := #[.tmp 40, .tmp 43]) rfl ?_); ((refine gate_guard (by rfl) ?_; dsimp only)); at_builtin; refine Kd.R_append Kd.string (w0 := w) w.heap.size rfl (.tmp 40) (.tmp 43) 24 9 (.string ⟨#[]⟩) 16 rfl Tryz.underlying24 info9 rfl (by decide) (by omega) u9 x9_2 t509 [.string t509] (fun _ => True) (fun _ => False) rfl rfl ?aP (fun _ hk => hk.elim) ?aF ?aO ?aB ?aS ?aL ?_; (case aP => exact rfl); (case aB => exact (bs_ (IsS139.ge HI502.out))); (case aF => exact (fun _ _ => trivial)); (case aO => exact (mv_ HO_9.out)); (case aS => exact (below_size (bs_ (IsS139.ge HI502.out)))); (case aL => have := LMc14.out; omega); intro v513 w17 ho hb hg hat; rw [← Ny512.out] at ho; have HO514 := Aside0.mk (ho); replace HB := Aside0.mk (hb); replace HI502 := Aside0.mk (IsS139.grown (by repeat (first | (with_reducible first | exact HI502.out | apply IsS139.alloc | apply IsS139.drewN | apply IsS139.drew | apply IsS139.set_0 | apply IsS139.set_1) | exact HI502.out)) hg (IsS139.own_ne HI502.out HO_9.out (by decide))); clear HO_9; clear ho hb hg hat))
      go_roundg k2
      case measure => have := HJ1.out; have := HK2.out; omega
      case rel => exact ⟨(y512), (t510), (t511), H', ⟨by have := HJ1.out; have := HK2.out; omega⟩, ⟨mv_ HO514.out⟩, ⟨by repeat (first | (with_reducible first | exact HI502.out | apply IsS139.alloc | apply IsS139.drewN | apply IsS139.drew | apply IsS139.set_0 | apply IsS139.set_1) | exact HI502.out)⟩, ⟨bs_ (IsS139.ge HI502.out)⟩⟩
     rw [if_neg c12] at H
     have c12b0 : decide (0 < t506) = false := decide_eq_false c12
     clear c12
     generalize hji18 : (wrap64 ((wrap64 (Int.tdiv (wrap64 ((a0.size : Int) - 2)) 32)) - 67)) = ji18 at H
     have hji18w := (i64_w _).trans hji18
     revert H; refine ne_ fun c19 c19b0 c19b1 H => ?_
     clear c19
     generalize hji20 : (shl .i64 1 (ji18)) = ji20 at H
     have hji20_ : (IntKind.i64.wrap (1 * 2 ^ min (ji18).toNat 64)) = ji20 := hji20
     have hji20z : (ji18) ≤ 64 → (IntKind.i64.wrap (1 * 2 ^ (ji18).toNat)) = ji20 := shl_small hji20
     have hji20u : (IntKind.i64.wrap (2 ^ min (ji18).toNat 64)) = ji20 := by have h_ := hji20_; rw [Int.one_mul] at h_; exact h_
     have hji20v : (ji18) ≤ 64 → (IntKind.i64.wrap (2 ^ (ji18).toNat)) = ji20 := fun hle_ => by have h_ := hji20z hle_; rw [Int.one_mul] at h_; exact h_
     have hji20y : (wrap64 (1 * 2 ^ min (ji18).toNat 64)) = ji20 := (i64_w _).symm.trans hji20_
     have hji20x : (ji18) ≤ 64 → (wrap64 (1 * 2 ^ (ji18).toNat)) = ji20 := fun h_ => (i64_w _).symm.trans (hji20z h_)
     by_cases c21 : t503 ≥ (ji20)
     ·rw [if_pos c21] at H
      have c21b0 : decide ((ji20) ≤ t503) = true := decide_eq_true c21
      clear c21
      simp only [Option.some.injEq, Prod.mk.injEq] at H
      obtain ⟨rfl, rfl, rfl, rfl⟩ := H
      go_wp2_with (first | (go_at_call 70; (with_reducible refine (octets_Reader_Left.calls g502 x503000_2 x503001_2 t506 t507 t508 w _ ?side1 ?side2 A11.out).mono ?_); (case side1 => repeat (first | (with_reducible first | exact HI502.out | apply IsS139.alloc | apply IsS139.drewN | apply IsS139.drew | apply IsS139.set_0 | apply IsS139.set_1) | exact HI502.out)); (case side2 => repeat (first | (with_reducible first | exact HB.out | apply lA_ | apply lN_ | apply lD_ | refine lS_ ?_ (IsS139.ge HI502.out)) | exact HB.out)); rintro e w22 ⟨rfl, hi, hb, hk⟩; replace HB := Aside0.mk (hb); replace HO_9 := Aside0.mk (Kd.R_mono (Kd.R_keep (IsS139.apart (show IsS139 w _ g502 x503000_2 x503001_2 from by repeat (first | (with_reducible first | exact HI502.out | apply IsS139.alloc | apply IsS139.drewN | apply IsS139.drew | apply IsS139.set_0 | apply IsS139.set_1) | exact HI502.out)) (mv_ HO_9.out) (by decide)) hk (fun _ h => h.2)) (fun _ h => h.1)); replace HI502 := Aside0.mk (hi); clear hb hk hi))
      refine bodyPost_ret (results_list (rs := [.tmp 2, .tmp 3, .tmp 4, .tmp 5]) rfl (by simp) (.tmp (.tmp (.tmp (.tmp .nil))))) rfl ?_
      exact ⟨none, none, 0, 0, by first | rfl | (simp [errW_none, errW_some] <;> rfl) | (simp only [← hji18, ← hji20]; first | rfl | (simp [errW_none, errW_some] <;> rfl)) | (simp [*, errW_none, errW_some] <;> rfl), Kd.C_nil _ _, Nat.le_refl _, Kd.C_nil _ _, Nat.le_refl _, bs_ (IsS139.ge HI502.out)⟩
     rw [if_neg c21] at H
     have c21b0 : decide ((ji20) ≤ t503) = false := decide_eq_false c21
     clear c21
     have c67_ : 67 ≤ x9_2.length := by by_cases z_ : 67 ≤ x9_2.length <;> first | exact z_ | (rw [if_neg z_] at H; cases H)
     rw [if_pos c67_] at H
     obtain ⟨A_, c_, e_⟩ := Kd.R_slice HO_9.out
     subst e_
     have hc_ := (Kd.R_reads' HO_9.out).2.1
     obtain ⟨i0_, hi0_, _, hsz_, _⟩ := info_parts info9
     have k1_ := cut_to (P := Tryz.prog) 24 9 .i64 Tryz.underlying24 hi0_ A_ x9_2.length c_ 67 (by decide) (by omega) hc_
     have k2_ := cut_from (P := Tryz.prog) 24 9 .i64 Tryz.underlying24 hi0_ 1 hsz_ A_ x9_2.length c_ 67 (by decide) (by omega)
     obtain ⟨A2_, hA2_⟩ : ∃ z : Option Addr, (if c_ = 67 then A_ else A_.map (·.add (67 * 1))) = z := ⟨_, rfl⟩
     replace k2_ : ∀ W : World, (Instr.slice 24 (.slice A_ x9_2.length c_) (some (.int .i64 67)) none none).run Tryz.prog W = .ok (.slice A2_ (x9_2.length - 67) (c_ - 67)) W := by intro W; rw [k2_ W]; show Result.ok (Value.slice (if c_ = 67 then A_ else A_.map (·.add (67 * 1))) _ _) W = _; rw [hA2_]; rfl
     replace k1_ : ∀ W : World, (Instr.slice 24 (.slice A_ x9_2.length c_) none (some (.int .i64 67)) none).run Tryz.prog W = .ok (.slice A_ 67 c_) W := k1_
     simp only [Option.some.injEq, Prod.mk.injEq] at H
     obtain ⟨rfl, rfl, rfl, rfl⟩ := H
     go_wp2_with (first | (go_at_call 70; (with_reducible refine (octets_Reader_Left.calls g502 x503000_2 x503001_2 t506 t507 t508 w _ ?side1 ?side2 A11.out).mono ?_); (case side1 => repeat (first | (with_reducible first | exact HI502.out | apply IsS139.alloc | apply IsS139.drewN | apply IsS139.drew | apply IsS139.set_0 | apply IsS139.set_1) | exact HI502.out)); (case side2 => repeat (first | (with_reducible first | exact HB.out | apply lA_ | apply lN_ | apply lD_ | refine lS_ ?_ (IsS139.ge HI502.out)) | exact HB.out)); rintro e w23 ⟨rfl, hi, hb, hk⟩; replace HB := Aside0.mk (hb); replace HO_9 := Aside0.mk (Kd.R_mono (Kd.R_keep (IsS139.apart (show IsS139 w _ g502 x503000_2 x503001_2 from by repeat (first | (with_reducible first | exact HI502.out | apply IsS139.alloc | apply IsS139.drewN | apply IsS139.drew | apply IsS139.set_0 | apply IsS139.set_1) | exact HI502.out)) (mv_ HO_9.out) (by decide)) hk (fun _ h => h.2)) (fun _ h => h.1)); replace HI502 := Aside0.mk (hi); clear hb hk hi))
     repeat (go_quiet (fail); try go_wp2)
     refine bodyPost_ret (results_list (rs := [.tmp 2, .tmp 3, .tmp 4, .tmp 5]) rfl (by simp) (.tmp (.tmp (.tmp (.tmp .nil))))) rfl ?_
     have hC_ := (Kd.R_reads' HO_9.out).2.2
     have l1_ : (x9_2.take 67).length = 67 := by rw [List.length_take]; omega
     have l2_ : (x9_2.drop 67).length = x9_2.length - 67 := List.length_drop
     have hT_ := Kd.C_take (m := 67) hC_ c67_
     have hD_ := Kd.C_drop (m := 67) hC_ c67_ hc_
     rw [show (if c_ = 67 then A_ else A_.map (·.add (67 * Kd.string.sz))) = A2_ from hA2_] at hD_
     exact ⟨A_, A2_, c_, c_ - 67, by rw [l1_, l2_]; rfl, by (with_reducible repeat (first | apply Kd.C_alloc | apply Kd.C_drewN | apply Kd.C_drew)); exact hT_, by omega, by (with_reducible repeat (first | apply Kd.C_alloc | apply Kd.C_drewN | apply Kd.C_drew)); exact hD_, by omega, bs_ (IsS139.ge HI502.out)⟩

/-! ### wots_Recover: function 41 -/
mutual
def wots_Recover.j0 : Nat → List ByteArray → List Int → Bool → Option (ByteArray × Bool)
 | 0, _, _, _ => none
 | k + 1, x1, x6, x22 => if x22 = true then (some ((⟨#[]⟩ : ByteArray), false)) else (wots_Recover.l0 k x6 ([] : List ByteArray) x1 (x1.length : Int) 0)
def wots_Recover.l0 : Nat → List Int → List ByteArray → List ByteArray → Int → Int → Option (ByteArray × Bool)
 | 0, _, _, _, _, _ => none
 | k + 1, x6, x8, x23, x24, x25 => if x25 < x24 then (if 0 ≤ x25 then (if x25 < (x23.length : Int) then (if x25 < (x6.length : Int) then ((wots_Chain.f k x25 (rdOf ByteArray.empty x23 x25) (wrap64 (15 - (rd x6 x25)))).bind fun t521 => (if x8.length < 8796093022208 then (wots_Recover.l0 k x6 (x8 ++ [t521]) x23 x24 (wrap64 (x25 + 1))) else (none))) else (none)) else (none)) else (none)) else ((sha_Tag.f k 3 x8).bind fun t525 => (some (t525, true)))
end
def wots_Recover.f (k : Nat) (a0 : ByteArray) (l1 : List ByteArray) : Option (ByteArray × Bool) := (wots_Digits.f k a0).bind fun bt515 => (if bt515.2 = true then (wots_Recover.j0 k l1 bt515.1 ((l1.length : Int) != 67)) else (wots_Recover.j0 k l1 bt515.1 true))
theorem wots_Recover.mono_l : ∀ k, (∀ y0 y1 y2, LeO (wots_Recover.j0 k y0 y1 y2) (wots_Recover.j0 (k + 1) y0 y1 y2)) ∧ (∀ y0 y1 y2 y3 y4, LeO (wots_Recover.l0 k y0 y1 y2 y3 y4) (wots_Recover.l0 (k + 1) y0 y1 y2 y3 y4))
 | 0 => ⟨fun _ _ _ r h => by simp [wots_Recover.j0] at h, fun _ _ _ _ _ r h => by simp [wots_Recover.l0] at h⟩
 | k + 1 => by
  obtain ⟨ih0, ih1⟩ := wots_Recover.mono_l k
  refine ⟨?_, ?_⟩ <;> intros <;> (first | unfold wots_Recover.j0 | unfold wots_Recover.l0) <;> repeat' first
  | (with_reducible exact ih0 _ _ _)
  | (with_reducible exact ih1 _ _ _ _ _)
  | (with_reducible exact sha_Tag.mono _ _ _)
  | (with_reducible exact wots_Chain.mono _ _ _ _)
  | (with_reducible exact wots_Digits.mono _ _)
  | (with_reducible exact LeO.refl _)
  | (with_reducible exact LeO.none _)
  | (with_reducible refine LeO.ite ?_ ?_)
  | (with_reducible refine LeO.bind ?_ (fun _ => ?_))
  | exact ih0 _ _ _
  | exact ih1 _ _ _ _ _
  | exact sha_Tag.mono _ _ _
  | exact wots_Chain.mono _ _ _ _
  | exact wots_Digits.mono _ _
  | exact LeO.none _
  | refine LeO.ite ?_ ?_
  | refine LeO.bind ?_ (fun _ => ?_)
theorem wots_Recover.mono : ∀ a0 a1 k, LeO (wots_Recover.f k a0 a1) (wots_Recover.f (k + 1) a0 a1) := by
 intro a0 a1 k
 obtain ⟨ih0, ih1⟩ := wots_Recover.mono_l k
 unfold wots_Recover.f
 repeat' first
  | (with_reducible exact ih0 _ _ _)
  | (with_reducible exact ih1 _ _ _ _ _)
  | (with_reducible exact sha_Tag.mono _ _ _)
  | (with_reducible exact wots_Chain.mono _ _ _ _)
  | (with_reducible exact wots_Digits.mono _ _)
  | (with_reducible exact LeO.refl _)
  | (with_reducible exact LeO.none _)
  | (with_reducible refine LeO.ite ?_ ?_)
  | (with_reducible refine LeO.bind ?_ (fun _ => ?_))
  | exact ih0 _ _ _
  | exact ih1 _ _ _ _ _
  | exact sha_Tag.mono _ _ _
  | exact wots_Chain.mono _ _ _ _
  | exact wots_Digits.mono _ _
  | exact LeO.none _
  | refine LeO.ite ?_ ?_
  | refine LeO.bind ?_ (fun _ => ?_)
set_option maxHeartbeats 64000000 in
set_option maxRecDepth 100000 in
theorem wots_Recover.calls (k : Nat) (a0 : ByteArray) (A1 : Option Addr) (c1 : Nat) (l1 : List ByteArray) (r1 : ByteArray) (r2 : Bool) (w : World) (hr1 : Kd.C Kd.string w A1 l1.length l1) (hc1 : l1.length ≤ c1) (hrG : Kd.C (Kd.int .u32) w (some ⟨0, 0, none⟩) keysL.length keysL) (h : wots_Recover.f k a0 l1 = some (r1, r2)) :
 Calls Tryz.prog 41 #[.string a0, .slice A1 l1.length c1] w fun e w' => e = .returned (.tuple #[.string r1, .bool r2]) ∧ Below w.heap.size w w' := by
 have HR1 := Aside0.mk hr1
 have HC1 := Aside0.mk hc1
 clear hr1 hc1
 have HRG := Aside0.mk hrG
 clear hrG
 have HB := Aside0.mk (Below.refl w.heap.size w)
 have H : ((wots_Digits.f k a0).bind fun bt515 => (if bt515.2 = true then (wots_Recover.j0 k l1 bt515.1 ((l1.length : Int) != 67)) else (wots_Recover.j0 k l1 bt515.1 true))) = some (r1, r2) := h
 clear h
 replace H := ob_ H
 obtain ⟨⟨t515, t516⟩, A30, H⟩ := H
 replace H : (if t516 = true then (wots_Recover.j0 k l1 t515 ((l1.length : Int) != 67)) else (wots_Recover.j0 k l1 t515 true)) = some (r1, r2) := H
 have A3 := Aside0.mk A30
 clear A30
 have HC4 := Aside0.mk H
 clear H
 go_enter Tryz.func41, Tryz.ntmps41
 go_upto_region 2 with (first | ((with_reducible refine gate_callee (f := 72) rfl ?_); refine gL_ 13 Tryz.func72 #[.string a0] ?_; (with_reducible refine (wots_Digits.calls k a0 t515 t516 _ A3.out).mono ?_); rintro e w5 ⟨v517, rfl, ho0, hb⟩; refine ⟨_, rfl, ?_⟩; have HO518 := Aside0.mk (Kd.R_lower ho0 (below_size bl_)); replace HB := Aside0.mk (below_step bl_ hb); (try clear hb); (try clear hb2); (try clear hk); (try clear hi); (try clear ho0)))
 (try simp only [Act.put, List.setIfInBounds_toArray, List.set_cons_zero, List.set_cons_succ])
 go_cut [22] (fun v22 wc => ∃ (kq : Nat) (x22_3 : Bool), v22 = .bool x22_3 ∧ Aside0 (wots_Recover.j0 kq l1 t515 x22_3 = some (r1, r2)) ∧ Aside0 (kq ≤ k) ∧ Aside0 (Kd.R (Kd.int .i64) 3 wc w.heap.size (fun _ => True) v517 t515) ∧ Aside0 (Below w.heap.size w wc))
 case first =>
  have H := HC4.out
  clear HC4
  by_cases c6 : t516 = true
  ·subst c6
   have H1 : (wots_Recover.j0 k l1 t515 ((l1.length : Int) != 67)) = some (r1, r2) := by rw [if_pos rfl] at H; exact H
   clear H
   have H := H1
   clear H1
   have H' := Aside0.mk H
   clear H
   go_wp2
   go_meet
   case rel => exact ⟨_, (((l1.length : Int) != 67)), vq_, H', ⟨by first | omega | exact Nat.le_refl _⟩, ⟨mv_ HO518.out⟩, ⟨bl_⟩⟩
  replace c6 := Bool.eq_false_iff.mpr c6
  subst c6
  have H1 : (wots_Recover.j0 k l1 t515 true) = some (r1, r2) := by rw [if_neg (show ¬ (false = true) by decide)] at H; exact H
  clear H
  have H := H1
  clear H1
  have H' := Aside0.mk H
  clear H
  go_wp2
  go_meet
  case rel => exact ⟨_, (true), vq_, H', ⟨by first | omega | exact Nat.le_refl _⟩, ⟨mv_ HO518.out⟩, ⟨bl_⟩⟩
 case rest =>
  clear HC4
  (try clear c1); (try clear p2); (try clear c4); (try clear c6); (try clear p6)
  obtain ⟨kq, x22_3, rfl, HA, HJ3, HO_6, HB⟩ := hcut
  cases kq with
  | zero => exact absurd HA.out (by simp [wots_Recover.j0])
  | succ kj3 =>
   have H := HA.out
   clear HA
   simp only [wots_Recover.j0] at H
   by_cases c7 : x22_3 = true
   ·subst c7
    have H1 : (some ((⟨#[]⟩ : ByteArray), false)) = some (r1, r2) := by rw [if_pos rfl] at H; exact H
    clear H
    have H := H1
    clear H1
    simp only [Option.some.injEq, Prod.mk.injEq] at H
    obtain ⟨rfl, rfl⟩ := H
    go_wp2
    go_ret2
    exact ⟨er_, bl_⟩
   replace c7 := Bool.eq_false_iff.mpr c7
   subst c7
   have H1 : (wots_Recover.l0 kj3 t515 ([] : List ByteArray) l1 (l1.length : Int) 0) = some (r1, r2) := by rw [if_neg (show ¬ (false = true) by decide)] at H; exact H
   clear H
   have H := H1
   clear H1
   have H' := Aside0.mk H
   clear H
   go_wp2
   go_loopg [8, 25] kj3 (fun kq v8 v25 w' => ∃ (x8_2 : List ByteArray) (x25_2 : Int), v25 = .int .i64 x25_2 ∧ Aside0 (wots_Recover.l0 kq t515 x8_2 l1 (l1.length : Int) x25_2 = some (r1, r2)) ∧ Aside0 (kq ≤ kj3) ∧ Aside0 (Kd.R (Kd.int .i64) 3 w' w.heap.size (fun _ => True) v517 t515) ∧ Aside0 (Kd.R Kd.string 9 w' w.heap.size (fun _ => True) v8 x8_2) ∧ Aside0 (Below w.heap.size w w'))
   case atStart => exact ⟨(([] : List ByteArray)), (0), vq_, H', ⟨Nat.le_refl _⟩, ⟨mv_ HO_6.out⟩, ⟨by first | exact Kd.R_nil _ _ _ _ _ | exact Kd.N_nil _ _ _ _ _ | exact Kd.V_nil _ _ _ _ _ | exact Kd.Q_nil _ _ _ _ _ | exact Kd.S_nil _ _ _ _ _⟩, ⟨bl_⟩⟩
   case round =>
    clear H'
    (try clear c1); (try clear p2); (try clear c4); (try clear c6); (try clear p6); (try clear c7); (try clear p2); (try clear p6)
    obtain ⟨x8_2, x25_2, rfl, HA, HK2, HO_6, HO_8, HB⟩ := hrel
    cases gk with
    | zero => exact absurd HA.out (by simp [wots_Recover.l0])
    | succ k2 =>
     have H := HA.out
     clear HA
     simp only [wots_Recover.l0] at H
     by_cases c8 : x25_2 < (l1.length : Int)
     ·rw [if_pos c8] at H
      have c8b0 : decide (x25_2 < (l1.length : Int)) = true := decide_eq_true c8
      clear c8
      revert H; refine nd_ fun c9 c9b0 => nd_ fun c10 c10b0 => nd_ fun c11 c11b0 => oa_ fun t521 A12 => nc_ fun c13 H => ?_
      have LMc13 := Aside0.mk c13
      clear c9 c10 c11 c13
      generalize e_ : (x8_2 ++ [t521] : List ByteArray) = y522 at H
      have Ny522 := Aside0.mk e_.symm
      clear e_
      have H' := Aside0.mk H
      clear H
      have p519 : 0 ≤ (x25_2 : Int) := ae_
      have q519 : x25_2 < (l1.length : Int) := ae_
      obtain ⟨ad519, e519, hx519_0⟩ := Kd.at_string HR1.out x25_2 p519 q519
      cases e519
      replace hx519_0 := (HB.out.cell (World.block_lt_of_cell? w _ hx519_0)).trans hx519_0
      replace p519 := eq_true p519
      replace q519 := eq_true q519
      obtain ⟨Ao14, co14, eo14⟩ := Kd.R_slice HO_6.out
      subst eo14
      have p520 : 0 ≤ (x25_2 : Int) := ae_
      have q520 : x25_2 < (t515.length : Int) := ae_
      obtain ⟨ad520, e520, hx520_0⟩ := Kd.at_int (Kd.R_reads' HO_6.out).2.2 x25_2 p520 q520
      cases e520
      replace p520 := eq_true p520
      replace q520 := eq_true q520
      go_wp2_with (first | ((with_reducible refine gate_callee (f := 73) rfl ?_); refine gL_ 38 Tryz.func73 #[.int .i64 x25_2, .string (rdOf ByteArray.empty l1 x25_2), .int .i64 (wrap64 (15 - (rd t515 x25_2)))] ?_; (with_reducible refine (wots_Chain.calls k2 x25_2 (rdOf ByteArray.empty l1 x25_2) (wrap64 (15 - (rd t515 x25_2))) t521 _ ?side1 A12.out).mono ?_); (case side1 => repeat (first | exact (Kd.C_below HRG.out HB.out) | (with_reducible refine Kd.C_alloc ?_ _) | (with_reducible refine Kd.C_drewN ?_ _) | (with_reducible refine Kd.C_drew ?_))); rintro e w15 ⟨rfl, hb⟩; refine ⟨_, rfl, ?_⟩; replace HB := Aside0.mk (below_step bl_ hb); replace HO_8 := Aside0.mk (Kd.R_below (mv_ HO_8.out) hb); replace HO_6 := Aside0.mk (Kd.R_below (mv_ HO_6.out) hb); (try clear hb); (try clear hb2); (try clear hk); (try clear hi)) | ((with_reducible refine gate_builtin (b := .append) (xs := #[.tmp 30, .tmp 39]) rfl ?_); (try (refine gate_guard (by rfl) ?_; dsimp only)); at_builtin; refine Kd.R_append Kd.string (w0 := w) w.heap.size rfl (.tmp 30) (.tmp 39) 24 9 (.string ⟨#[]⟩) 16 rfl Tryz.underlying24 info9 rfl (by decide) (by omega) u8 x8_2 t521 [.string t521] (fun _ => True) (fun _ => False) rfl rfl ?aP (fun _ hk => hk.elim) ?aF ?aO ?aB ?aS ?aL ?_; (case aP => exact rfl); (case aB => exact bl_); (case aF => exact (fun _ _ => trivial)); (case aO => exact (mv_ HO_8.out)); (case aS => exact (below_size bl_)); (case aL => have := LMc13.out; omega); intro v523 w16 ho hb hg hat; rw [← Ny522.out] at ho; have HO524 := Aside0.mk (ho); replace HB := Aside0.mk (hb); replace HO_6 := Aside0.mk (Kd.R_over' (mv_ HO_6.out) (Kd.R_typed (mv_ HO_8.out)) (by decide) hg); clear HO_8; clear ho hb hg hat))
      go_roundg k2
      case measure => have := HJ3.out; have := HK2.out; omega
      case rel => exact ⟨(y522), (wrap64 (x25_2 + 1)), vq_, H', ⟨by have := HJ3.out; have := HK2.out; omega⟩, ⟨mv_ HO_6.out⟩, ⟨mv_ HO524.out⟩, ⟨bl_⟩⟩
     rw [if_neg c8] at H
     have c8b0 : decide (x25_2 < (l1.length : Int)) = false := decide_eq_false c8
     clear c8
     revert H; refine oa_ fun t525 A17 H => ?_
     simp only [Option.some.injEq, Prod.mk.injEq] at H
     obtain ⟨rfl, rfl⟩ := H
     obtain ⟨Ao18, co18, eo18⟩ := Kd.R_slice HO_8.out
     subst eo18
     go_wp2_with (first | ((with_reducible refine gate_callee (f := 42) rfl ?_); refine gL_ 43 Tryz.func42 #[.int .i64 3, .slice Ao18 x8_2.length co18] ?_; (with_reducible refine (sha_Tag.calls k2 3 _ _ x8_2 t525 _ ?side1 ?side2 ?side3 A17.out).mono ?_); (case side1 => repeat (first | exact (Kd.R_reads' HO_8.out).2.2 | (with_reducible refine Kd.C_alloc ?_ _) | (with_reducible refine Kd.C_drewN ?_ _) | (with_reducible refine Kd.C_drew ?_))); (case side2 => exact (Kd.R_reads' HO_8.out).2.1); (case side3 => repeat (first | exact (Kd.C_below HRG.out HB.out) | (with_reducible refine Kd.C_alloc ?_ _) | (with_reducible refine Kd.C_drewN ?_ _) | (with_reducible refine Kd.C_drew ?_))); rintro e w19 ⟨rfl, hb⟩; refine ⟨_, rfl, ?_⟩; replace HB := Aside0.mk (below_step bl_ hb); replace HO_8 := Aside0.mk (Kd.R_below (mv_ HO_8.out) hb); replace HO_6 := Aside0.mk (Kd.R_below (mv_ HO_6.out) hb); (try clear hb); (try clear hb2); (try clear hk); (try clear hi)))
     go_ret2
     exact ⟨er_, bl_⟩

/-! ### merkle_Fold: function 43 -/
mutual
def merkle_Fold.j0 : Nat → ByteArray → Int → List ByteArray → Bool → Option (ByteArray × Bool)
 | 0, _, _, _, _ => none
 | k + 1, x0, x1, x2, x24 => if x24 = true then (some ((⟨#[]⟩ : ByteArray), false)) else (merkle_Fold.l0 k x0 x1 x2 (x2.length : Int) 0)
def merkle_Fold.l0 : Nat → ByteArray → Int → List ByteArray → Int → Int → Option (ByteArray × Bool)
 | 0, _, _, _, _, _ => none
 | k + 1, x0, x1, x25, x26, x27 => if x27 < x26 then (if 0 ≤ x27 then (if x27 < (x25.length : Int) then ((some (List.replicate 2 (⟨#[]⟩ : ByteArray) : List ByteArray)).bind fun y527 => (if y527.length = 2 then (if 0 < (y527.length : Int) then (if (Go.bits .and .i64 x1 1) = 1 then ((sha_Tag.f k 4 ([rdOf ByteArray.empty x25 x27, x0])).bind fun t532 => (merkle_Fold.l0 k t532 (x1 / 2) x25 x26 (wrap64 (x27 + 1)))) else ((sha_Tag.f k 4 ([x0, rdOf ByteArray.empty x25 x27])).bind fun t533 => (merkle_Fold.l0 k t533 (x1 / 2) x25 x26 (wrap64 (x27 + 1))))) else (none)) else (none))) else (none)) else (none)) else (some (x0, true))
end
def merkle_Fold.f (k : Nat) (a0 : ByteArray) (a1 : Int) (l2 : List ByteArray) : Option (ByteArray × Bool) := if (l2.length : Int) > 4 then (merkle_Fold.j0 k a0 a1 l2 true) else (if a1 < 0 then (merkle_Fold.j0 k a0 a1 l2 true) else (merkle_Fold.j0 k a0 a1 l2 (decide (a1 ≥ (shl .i64 1 (l2.length : Int))))))
theorem merkle_Fold.mono_l : ∀ k, (∀ y0 y1 y2 y3, LeO (merkle_Fold.j0 k y0 y1 y2 y3) (merkle_Fold.j0 (k + 1) y0 y1 y2 y3)) ∧ (∀ y0 y1 y2 y3 y4, LeO (merkle_Fold.l0 k y0 y1 y2 y3 y4) (merkle_Fold.l0 (k + 1) y0 y1 y2 y3 y4))
 | 0 => ⟨fun _ _ _ _ r h => by simp [merkle_Fold.j0] at h, fun _ _ _ _ _ r h => by simp [merkle_Fold.l0] at h⟩
 | k + 1 => by
  obtain ⟨ih0, ih1⟩ := merkle_Fold.mono_l k
  refine ⟨?_, ?_⟩ <;> intros <;> (first | unfold merkle_Fold.j0 | unfold merkle_Fold.l0) <;> repeat' first
  | (with_reducible exact ih0 _ _ _ _)
  | (with_reducible exact ih1 _ _ _ _ _)
  | (with_reducible exact sha_Tag.mono _ _ _)
  | (with_reducible exact LeO.refl _)
  | (with_reducible exact LeO.none _)
  | (with_reducible refine LeO.ite ?_ ?_)
  | (with_reducible refine LeO.bind ?_ (fun _ => ?_))
  | exact ih0 _ _ _ _
  | exact ih1 _ _ _ _ _
  | exact sha_Tag.mono _ _ _
  | exact LeO.none _
  | refine LeO.ite ?_ ?_
  | refine LeO.bind ?_ (fun _ => ?_)
theorem merkle_Fold.mono : ∀ a0 a1 a2 k, LeO (merkle_Fold.f k a0 a1 a2) (merkle_Fold.f (k + 1) a0 a1 a2) := by
 intro a0 a1 a2 k
 obtain ⟨ih0, ih1⟩ := merkle_Fold.mono_l k
 unfold merkle_Fold.f
 repeat' first
  | (with_reducible exact ih0 _ _ _ _)
  | (with_reducible exact ih1 _ _ _ _ _)
  | (with_reducible exact sha_Tag.mono _ _ _)
  | (with_reducible exact LeO.refl _)
  | (with_reducible exact LeO.none _)
  | (with_reducible refine LeO.ite ?_ ?_)
  | (with_reducible refine LeO.bind ?_ (fun _ => ?_))
  | exact ih0 _ _ _ _
  | exact ih1 _ _ _ _ _
  | exact sha_Tag.mono _ _ _
  | exact LeO.none _
  | refine LeO.ite ?_ ?_
  | refine LeO.bind ?_ (fun _ => ?_)
set_option maxHeartbeats 64000000 in
set_option maxRecDepth 100000 in
theorem merkle_Fold.calls (k : Nat) (a0 : ByteArray) (a1 : Int) (A2 : Option Addr) (c2 : Nat) (l2 : List ByteArray) (r1 : ByteArray) (r2 : Bool) (w : World) (hr2 : Kd.C Kd.string w A2 l2.length l2) (hc2 : l2.length ≤ c2) (hrG : Kd.C (Kd.int .u32) w (some ⟨0, 0, none⟩) keysL.length keysL) (h : merkle_Fold.f k a0 a1 l2 = some (r1, r2)) :
 Calls Tryz.prog 43 #[.string a0, .int .i64 a1, .slice A2 l2.length c2] w fun e w' => e = .returned (.tuple #[.string r1, .bool r2]) ∧ Below w.heap.size w w' := by
 have hu113 := Tryz.underlying113
 have HR2 := Aside0.mk hr2
 have HC2 := Aside0.mk hc2
 clear hr2 hc2
 have HRG := Aside0.mk hrG
 clear hrG
 have HB := Aside0.mk (Below.refl w.heap.size w)
 have H : (if (l2.length : Int) > 4 then (merkle_Fold.j0 k a0 a1 l2 true) else (if a1 < 0 then (merkle_Fold.j0 k a0 a1 l2 true) else (merkle_Fold.j0 k a0 a1 l2 (decide (a1 ≥ (shl .i64 1 (l2.length : Int))))))) = some (r1, r2) := h
 clear h
 have HC4 := Aside0.mk H
 clear H
 go_enter Tryz.func43, Tryz.ntmps43
 go_upto_region 1 with (fail)
 go_cut [24] (fun v24 wc => ∃ (kq : Nat) (x24_3 : Bool), v24 = .bool x24_3 ∧ Aside0 (merkle_Fold.j0 kq a0 a1 l2 x24_3 = some (r1, r2)) ∧ Aside0 (kq ≤ k) ∧ Aside0 (Below w.heap.size w wc))
 case first =>
  have H := HC4.out
  clear HC4
  by_cases c5 : (l2.length : Int) > 4
  ·rw [if_pos c5] at H
   have c5b0 : decide (4 < (l2.length : Int)) = true := decide_eq_true c5
   have c5b1 : decide (4 < l2.length) = true := decide_eq_true (by omega)
   clear c5
   (first | rw [c5b0] | (simp only [i64_w, i32_w]; rw [c5b0]) | skip)
   have H' := Aside0.mk H
   clear H
   go_wp2
   go_meet
   case rel => exact ⟨_, (true), vq_, H', ⟨by first | omega | exact Nat.le_refl _⟩, ⟨bl_⟩⟩
  rw [if_neg c5] at H
  have c5b0 : decide (4 < (l2.length : Int)) = false := decide_eq_false c5
  have c5b1 : decide (4 < l2.length) = false := decide_eq_false (by omega)
  clear c5
  (first | rw [c5b0] | (simp only [i64_w, i32_w]; rw [c5b0]) | skip)
  by_cases c6 : a1 < 0
  ·rw [if_pos c6] at H
   have c6b0 : decide (a1 < 0) = true := decide_eq_true c6
   clear c6
   have H' := Aside0.mk H
   clear H
   go_wp2
   go_meet
   case rel => exact ⟨_, (true), vq_, H', ⟨by first | omega | exact Nat.le_refl _⟩, ⟨bl_⟩⟩
  rw [if_neg c6] at H
  have c6b0 : decide (a1 < 0) = false := decide_eq_false c6
  clear c6
  generalize hji7 : (shl .i64 1 (l2.length : Int)) = ji7 at H
  have hji7_ : (IntKind.i64.wrap (1 * 2 ^ min (l2.length : Int).toNat 64)) = ji7 := hji7
  have hji7z : (l2.length : Int) ≤ 64 → (IntKind.i64.wrap (1 * 2 ^ (l2.length : Int).toNat)) = ji7 := shl_small hji7
  (try (have hji7n : (0 ≤ (l2.length : Int)) = True := eq_true (by omega)))
  have hji7p : (IntKind.i64.wrap (1 * 2 ^ min l2.length 64)) = ji7 := hji7_
  have hji7q : (l2.length : Int) ≤ 64 → (IntKind.i64.wrap (1 * 2 ^ l2.length)) = ji7 := hji7z
  have hji7r : (IntKind.i64.wrap (2 ^ min l2.length 64)) = ji7 := by have h_ := hji7p; rw [Int.one_mul] at h_; exact h_
  have hji7s : (l2.length : Int) ≤ 64 → (IntKind.i64.wrap (2 ^ l2.length)) = ji7 := fun hle_ => by have h_ := hji7q hle_; rw [Int.one_mul] at h_; exact h_
  have hji7u : (IntKind.i64.wrap (2 ^ min (l2.length : Int).toNat 64)) = ji7 := by have h_ := hji7_; rw [Int.one_mul] at h_; exact h_
  have hji7v : (l2.length : Int) ≤ 64 → (IntKind.i64.wrap (2 ^ (l2.length : Int).toNat)) = ji7 := fun hle_ => by have h_ := hji7z hle_; rw [Int.one_mul] at h_; exact h_
  have hji7y : (wrap64 (1 * 2 ^ min (l2.length : Int).toNat 64)) = ji7 := (i64_w _).symm.trans hji7_
  have hji7x : (l2.length : Int) ≤ 64 → (wrap64 (1 * 2 ^ (l2.length : Int).toNat)) = ji7 := fun h_ => (i64_w _).symm.trans (hji7z h_)
  have H' := Aside0.mk H
  clear H
  go_wp2
  go_meet
  case rel => exact ⟨_, (decide (a1 ≥ (ji7))), (by first | rfl | (simp; done) | (simp only [← hji7] <;> (first | rfl | simp)) | (simp [*]; done) | exact congrArg Value.bool (nonempty_l _) | (refine congrArg (Value.int _) ?_; first | omega | (unfold wrap64; omega))), H', ⟨by first | omega | exact Nat.le_refl _⟩, ⟨bl_⟩⟩
 case rest =>
  clear HC4
  (try clear c2); (try clear p2); (try clear c4); (try clear c5); (try clear c5b0); (try clear c5b1); (try clear c6); (try clear c6b0); (try clear p6)
  obtain ⟨kq, x24_3, rfl, HA, HJ3, HB⟩ := hcut
  cases kq with
  | zero => exact absurd HA.out (by simp [merkle_Fold.j0])
  | succ kj3 =>
   have H := HA.out
   clear HA
   simp only [merkle_Fold.j0] at H
   by_cases c8 : x24_3 = true
   ·subst c8
    have H1 : (some ((⟨#[]⟩ : ByteArray), false)) = some (r1, r2) := by rw [if_pos rfl] at H; exact H
    clear H
    have H := H1
    clear H1
    simp only [Option.some.injEq, Prod.mk.injEq] at H
    obtain ⟨rfl, rfl⟩ := H
    go_wp2
    go_ret2
    exact ⟨er_, bl_⟩
   replace c8 := Bool.eq_false_iff.mpr c8
   subst c8
   have H1 : (merkle_Fold.l0 kj3 a0 a1 l2 (l2.length : Int) 0) = some (r1, r2) := by rw [if_neg (show ¬ (false = true) by decide)] at H; exact H
   clear H
   have H := H1
   clear H1
   have H' := Aside0.mk H
   clear H
   go_wp2
   go_loopg [0, 1, 27] kj3 (fun kq v0 v1 v27 w' => ∃ (x0_2 : ByteArray) (x1_2 : Int) (x27_2 : Int), v0 = .string x0_2 ∧ v1 = .int .i64 x1_2 ∧ v27 = .int .i64 x27_2 ∧ Aside0 (merkle_Fold.l0 kq x0_2 x1_2 l2 (l2.length : Int) x27_2 = some (r1, r2)) ∧ Aside0 (kq ≤ kj3) ∧ Aside0 (Below w.heap.size w w'))
   case atStart => exact ⟨(a0), (a1), (0), vq_, vq_, vq_, H', ⟨Nat.le_refl _⟩, ⟨bl_⟩⟩
   case round =>
    clear H'
    (try clear c2); (try clear p2); (try clear c4); (try clear c5); (try clear c5b0); (try clear c5b1); (try clear c6); (try clear c6b0); (try clear p6); (try clear c8); (try clear p2); (try clear p6)
    obtain ⟨x0_2, x1_2, x27_2, rfl, rfl, rfl, HA, HK2, HB⟩ := hrel
    cases gk with
    | zero => exact absurd HA.out (by simp [merkle_Fold.l0])
    | succ k2 =>
     have H := HA.out
     clear HA
     simp only [merkle_Fold.l0] at H
     by_cases c9 : x27_2 < (l2.length : Int)
     ·rw [if_pos c9] at H
      have c9b0 : decide (x27_2 < (l2.length : Int)) = true := decide_eq_true c9
      clear c9
      revert H; refine nd_ fun c10 c10b0 => nd_ fun c11 c11b0 => oy_ fun y527 Ny527 => ne_ fun c12 c12b0 c12b1 => nd_ fun c13 c13b0 H => ?_
      have c13b1 : decide (0 < y527.length) = true := decide_eq_true (by omega)
      clear c10 c11 c12 c13
      generalize e_ : ([x0_2, rdOf ByteArray.empty l2 x27_2] : List ByteArray) = y530 at H
      have Ny530 := Aside0.mk e_.symm
      clear e_
      by_cases c15 : (Go.bits .and .i64 x1_2 1) = 1
      ·rw [if_pos c15] at H
       have c15b0 : ((Go.bits .and .i64 x1_2 1) == 1) = true := beq_iff_eq.mpr c15
       have c15b1 : ((Go.bits .and .i64 x1_2 1) != 1) = false := bne_eq_false_iff_eq.mpr c15
       clear c15
       generalize e_ : ([rdOf ByteArray.empty l2 x27_2, x0_2] : List ByteArray) = y531 at H
       have Ny531 := Aside0.mk e_.symm
       clear e_
       revert H; refine oa_ fun t532 A18 H => ?_
       have H' := Aside0.mk H
       clear H
       have p526 : 0 ≤ (x27_2 : Int) := ae_
       have q526 : x27_2 < (l2.length : Int) := ae_
       obtain ⟨ad526, e526, hx526_0⟩ := Kd.at_string HR2.out x27_2 p526 q526
       cases e526
       replace hx526_0 := (HB.out.cell (World.block_lt_of_cell? w _ hx526_0)).trans hx526_0
       replace p526 := eq_true p526
       replace q526 := eq_true q526
       go_wp2_with (first | ((with_reducible refine gate_dst (N := 10) rfl ?_); (try (refine gate_guard (by rfl) ?_; dsimp only)); refine R_arr Value.string (fun _ => rfl) _ 113 ?hg (N := 10) ?hd (List.replicate 2 (⟨#[]⟩ : ByteArray)) ?hr (Below.refl _ _) (Nat.le_refl _) (by decide) ?_; (case hd => rfl); (case hg => rfl); (case hr => exact gr_); intro v528 w19 ho20 hb hg_ hnew_; clear hg_ hnew_; (first | rw [← Ny527.out] at ho20 | (simp only [Int.reduceToNat] at ho20; rw [← Ny527.out] at ho20)); have HO529 := Aside0.mk (Kd.R_lower ho20 (below_size bl_)); replace HB := Aside0.mk (below_step bl_ hb); clear hb ho20; have qa14 : ((0 : Int) < (2 : Int)) = True := eq_true (by have e_ : y527.length = 2 := ae_; have h_ : (0 : Int) < ((y527.length : Int) : Int) := ae_; omega); have p14 : 0 ≤ (0 : Int) := (by omega); have q14 : (0 : Int) < ((y527.length : Int) : Int) := ae_; have qi14 : (0 < y527.length) = True := eq_true (by omega); obtain ⟨go14, co14, eo14, gb14, gl14, cl14, HG14⟩ := Kd.R_form HO529.out (by omega); (first | cases eo14 | (injection eo14 with ea_ en_ ec_; (first | subst ea_ | (injection ea_ with ea_; subst ea_)); subst ec_; clear en_)); have GB14 := Aside0.mk gb14; have GG14 := Aside0.mk HG14; clear gb14 gl14 HG14; obtain ⟨hx14_0, hf14_0⟩ := Kd.R_celln (⟨#[]⟩ : ByteArray) HO529.out (0 : Int) p14 q14; (try rw [show ((0 : Int)).toNat = 0 from rfl] at hx14_0); (try simp only [Nat.reduceMul, Nat.zero_mul, Nat.zero_add, Nat.reduceAdd] at hx14_0); (try rw [show ((0 : Int)).toNat = 0 from rfl] at hf14_0); (try simp only [Nat.reduceMul, Nat.zero_mul, Nat.zero_add, Nat.reduceAdd] at hf14_0); replace p14 := eq_true p14; replace q14 := eq_true q14; have HP21 := R_whole (ys := [x0_2, rdOf ByteArray.empty l2 x27_2]) HO529.out (by have e_ : y527.length = 2 := ae_; have e2_ := (Kd.R_reads' HO529.out).1; first | (rw [e_]; rfl) | (simp only [List.length_cons, List.length_nil]; omega))) | ((with_reducible refine gate_store (t := 113) (p := 10) rfl ?_); refine store_event (t := 113) (p := 10) (v := ?vo_w22) (w1 := (w19.setCells go14 0 (encs Value.string [x0_2, rdOf ByteArray.empty l2 x27_2]))) ?hg ?ho ?hn ?hr ?_; (case ho => rfl); (case hg => rfl); (case hn => rfl); (case hr => exact whole_run (ys := [x0_2, rdOf ByteArray.empty l2 x27_2]) rfl rfl rfl (by kernel_rfl) HO529.out (by have e_ : y527.length = 2 := ae_; have e2_ := (Kd.R_reads' HO529.out).1; first | (rw [e_]; rfl) | (simp only [List.length_cons, List.length_nil]; omega))); intro w22 hw; have hg : w19.grownBy w22 (some go14) := (by rw [hw]; exact HP21.2); have hp_ : Kd.R Kd.string 113 w22 w.heap.size (fun _ => True) (.slice (some ⟨go14, 0, none⟩) y527.length co14) y530 := (by rw [hw, Ny530.out]; exact HP21.1); clear HP21; replace HB := Aside0.mk ((Below.grown HB.out hg (below_size HB.out) (fun k_ e_ => (Option.some.inj e_) ▸ GB14.out) : Below w.heap.size w w22)); replace HO529 := Aside0.mk (hp_); clear hg hw hp_; have qa16 : ((0 : Int) < (2 : Int)) = True := eq_true (by have e_ : y527.length = 2 := ae_; have h_ : (0 : Int) < ((y527.length : Int) : Int) := ae_; omega); have p16 : 0 ≤ (0 : Int) := (by omega); have q16 : (0 : Int) < ((y527.length : Int) : Int) := ae_; have qi16 : (0 < y527.length) = True := eq_true (by omega); obtain ⟨hx16_0, hf16_0⟩ := Kd.R_celln (⟨#[]⟩ : ByteArray) HO529.out (0 : Int) p16 q16; (try rw [show ((0 : Int)).toNat = 0 from rfl] at hx16_0); (try simp only [Nat.reduceMul, Nat.zero_mul, Nat.zero_add, Nat.reduceAdd] at hx16_0); (try rw [show ((0 : Int)).toNat = 0 from rfl] at hf16_0); (try simp only [Nat.reduceMul, Nat.zero_mul, Nat.zero_add, Nat.reduceAdd] at hf16_0); replace p16 := eq_true p16; replace q16 := eq_true q16; have HP23 := R_whole (ys := [rdOf ByteArray.empty l2 x27_2, x0_2]) HO529.out (by have e_ : y527.length = 2 := ae_; have e2_ := (Kd.R_reads' HO529.out).1; first | (rw [e_]; rfl) | (simp only [List.length_cons, List.length_nil]; omega))) | ((with_reducible refine gate_store (t := 113) (p := 10) rfl ?_); refine store_event (t := 113) (p := 10) (v := ?vo_w24) (w1 := (w22.setCells go14 0 (encs Value.string [rdOf ByteArray.empty l2 x27_2, x0_2]))) ?hg ?ho ?hn ?hr ?_; (case ho => rfl); (case hg => rfl); (case hn => rfl); (case hr => exact whole_run (ys := [rdOf ByteArray.empty l2 x27_2, x0_2]) rfl rfl rfl (by kernel_rfl) HO529.out (by have e_ : y527.length = 2 := ae_; have e2_ := (Kd.R_reads' HO529.out).1; first | (rw [e_]; rfl) | (simp only [List.length_cons, List.length_nil]; omega))); intro w24 hw; have hg : w22.grownBy w24 (some go14) := (by rw [hw]; exact HP23.2); have hp_ : Kd.R Kd.string 113 w24 w.heap.size (fun _ => True) (.slice (some ⟨go14, 0, none⟩) y527.length co14) y531 := (by rw [hw, Ny531.out]; exact HP23.1); clear HP23; replace HB := Aside0.mk ((Below.grown HB.out hg (below_size HB.out) (fun k_ e_ => (Option.some.inj e_) ▸ GB14.out) : Below w.heap.size w w24)); replace HO529 := Aside0.mk (hp_); clear hg hw hp_; have qa17 : ((0 : Int) < (2 : Int)) = True := eq_true (by have e_ : y527.length = 2 := ae_; have h_ : (0 : Int) < ((y527.length : Int) : Int) := ae_; omega); have p17 : 0 ≤ (0 : Int) := (by omega); have q17 : (0 : Int) < ((y527.length : Int) : Int) := ae_; have qi17 : (0 < y527.length) = True := eq_true (by omega); obtain ⟨hx17_0, hf17_0⟩ := Kd.R_celln (⟨#[]⟩ : ByteArray) HO529.out (0 : Int) p17 q17; (try rw [show ((0 : Int)).toNat = 0 from rfl] at hx17_0); (try simp only [Nat.reduceMul, Nat.zero_mul, Nat.zero_add, Nat.reduceAdd] at hx17_0); (try rw [show ((0 : Int)).toNat = 0 from rfl] at hf17_0); (try simp only [Nat.reduceMul, Nat.zero_mul, Nat.zero_add, Nat.reduceAdd] at hf17_0); replace p17 := eq_true p17; replace q17 := eq_true q17) | ((with_reducible refine gate_dst (N := 40) rfl ?_); (try (refine gate_guard (by rfl) ?_; dsimp only)); refine aslice_event (P := Tryz.prog) rfl (N := 40) rfl 113 9 2 _ _ rfl rfl Tryz.underlying113 (by go_simp) ?_) | ((with_reducible refine gate_callee (f := 42) rfl ?_); refine goesL_ (some 41) rfl rfl Tryz.func42 (by kernel_rfl) rfl #[.int .i64 4, .slice (some ⟨go14, 0, none⟩) y531.length 2] rfl (by (try simp only [List.map_toArray, List.map_cons, List.map_nil]); first | done | (rw [show y531.length = 2 from (by have e_ : y527.length = 2 := (by first | rfl | exact ae_); have e2_ := (Kd.R_reads' HO529.out).1; omega)] <;> rfl) | rfl | (simp only [List.length_drop, List.length_take]; rfl)) ?_; (with_reducible refine (sha_Tag.calls k2 4 _ _ y531 t532 _ ?side1 ?side2 ?side3 A18.out).mono ?_); (case side1 => repeat (first | exact (Kd.R_reads' HO529.out).2.2 | (with_reducible refine Kd.C_alloc ?_ _) | (with_reducible refine Kd.C_drewN ?_ _) | (with_reducible refine Kd.C_drew ?_))); (case side2 => rw [show y531.length = 2 from (by have e_ : y527.length = 2 := (by first | rfl | exact ae_); have e2_ := (Kd.R_reads' HO529.out).1; omega)]; first | done | exact Nat.le_refl _ | exact Nat.le_of_eq (by have e_ : y527.length = 2 := (by first | rfl | exact ae_); have e2_ := (Kd.R_reads' HO529.out).1; omega)); (case side3 => repeat (first | exact (Kd.C_below HRG.out HB.out) | (with_reducible refine Kd.C_alloc ?_ _) | (with_reducible refine Kd.C_drewN ?_ _) | (with_reducible refine Kd.C_drew ?_))); rintro e w26 ⟨rfl, hb⟩; refine ⟨_, rfl, ?_⟩; replace HB := Aside0.mk (below_step bl_ hb); replace HO529 := Aside0.mk (Kd.R_below (mv_ HO529.out) hb); (try clear hb); (try clear hb2); (try clear hk); (try clear hi)))
       go_roundg k2
       case measure => have := HJ3.out; have := HK2.out; omega
       case rel => exact ⟨(t532), (x1_2 / 2), (wrap64 (x27_2 + 1)), vq_, vq_, vq_, H', ⟨by have := HJ3.out; have := HK2.out; omega⟩, ⟨bl_⟩⟩
      rw [if_neg c15] at H
      have c15b0 : ((Go.bits .and .i64 x1_2 1) == 1) = false := beq_eq_false_iff_ne.mpr c15
      have c15b1 : ((Go.bits .and .i64 x1_2 1) != 1) = true := bne_iff_ne.mpr c15
      revert H; refine oa_ fun t533 A28 H => ?_
      have H' := Aside0.mk H
      clear H
      have p526 : 0 ≤ (x27_2 : Int) := ae_
      have q526 : x27_2 < (l2.length : Int) := ae_
      obtain ⟨ad526, e526, hx526_0⟩ := Kd.at_string HR2.out x27_2 p526 q526
      cases e526
      replace hx526_0 := (HB.out.cell (World.block_lt_of_cell? w _ hx526_0)).trans hx526_0
      replace p526 := eq_true p526
      replace q526 := eq_true q526
      go_wp2_with (first | ((with_reducible refine gate_dst (N := 10) rfl ?_); (try (refine gate_guard (by rfl) ?_; dsimp only)); refine R_arr Value.string (fun _ => rfl) _ 113 ?hg (N := 10) ?hd (List.replicate 2 (⟨#[]⟩ : ByteArray)) ?hr (Below.refl _ _) (Nat.le_refl _) (by decide) ?_; (case hd => rfl); (case hg => rfl); (case hr => exact gr_); intro v528 w29 ho30 hb hg_ hnew_; clear hg_ hnew_; (first | rw [← Ny527.out] at ho30 | (simp only [Int.reduceToNat] at ho30; rw [← Ny527.out] at ho30)); have HO529 := Aside0.mk (Kd.R_lower ho30 (below_size bl_)); replace HB := Aside0.mk (below_step bl_ hb); clear hb ho30; have qa14 : ((0 : Int) < (2 : Int)) = True := eq_true (by have e_ : y527.length = 2 := ae_; have h_ : (0 : Int) < ((y527.length : Int) : Int) := ae_; omega); have p14 : 0 ≤ (0 : Int) := (by omega); have q14 : (0 : Int) < ((y527.length : Int) : Int) := ae_; have qi14 : (0 < y527.length) = True := eq_true (by omega); obtain ⟨go14, co14, eo14, gb14, gl14, cl14, HG14⟩ := Kd.R_form HO529.out (by omega); (first | cases eo14 | (injection eo14 with ea_ en_ ec_; (first | subst ea_ | (injection ea_ with ea_; subst ea_)); subst ec_; clear en_)); have GB14 := Aside0.mk gb14; have GG14 := Aside0.mk HG14; clear gb14 gl14 HG14; obtain ⟨hx14_0, hf14_0⟩ := Kd.R_celln (⟨#[]⟩ : ByteArray) HO529.out (0 : Int) p14 q14; (try rw [show ((0 : Int)).toNat = 0 from rfl] at hx14_0); (try simp only [Nat.reduceMul, Nat.zero_mul, Nat.zero_add, Nat.reduceAdd] at hx14_0); (try rw [show ((0 : Int)).toNat = 0 from rfl] at hf14_0); (try simp only [Nat.reduceMul, Nat.zero_mul, Nat.zero_add, Nat.reduceAdd] at hf14_0); replace p14 := eq_true p14; replace q14 := eq_true q14; have HP31 := R_whole (ys := [x0_2, rdOf ByteArray.empty l2 x27_2]) HO529.out (by have e_ : y527.length = 2 := ae_; have e2_ := (Kd.R_reads' HO529.out).1; first | (rw [e_]; rfl) | (simp only [List.length_cons, List.length_nil]; omega))) | ((with_reducible refine gate_store (t := 113) (p := 10) rfl ?_); refine store_event (t := 113) (p := 10) (v := ?vo_w32) (w1 := (w29.setCells go14 0 (encs Value.string [x0_2, rdOf ByteArray.empty l2 x27_2]))) ?hg ?ho ?hn ?hr ?_; (case ho => rfl); (case hg => rfl); (case hn => rfl); (case hr => exact whole_run (ys := [x0_2, rdOf ByteArray.empty l2 x27_2]) rfl rfl rfl (by kernel_rfl) HO529.out (by have e_ : y527.length = 2 := ae_; have e2_ := (Kd.R_reads' HO529.out).1; first | (rw [e_]; rfl) | (simp only [List.length_cons, List.length_nil]; omega))); intro w32 hw; have hg : w29.grownBy w32 (some go14) := (by rw [hw]; exact HP31.2); have hp_ : Kd.R Kd.string 113 w32 w.heap.size (fun _ => True) (.slice (some ⟨go14, 0, none⟩) y527.length co14) y530 := (by rw [hw, Ny530.out]; exact HP31.1); clear HP31; replace HB := Aside0.mk ((Below.grown HB.out hg (below_size HB.out) (fun k_ e_ => (Option.some.inj e_) ▸ GB14.out) : Below w.heap.size w w32)); replace HO529 := Aside0.mk (hp_); clear hg hw hp_; have qa27 : ((0 : Int) < (2 : Int)) = True := eq_true (by have e_ : y527.length = 2 := ae_; have h_ : (0 : Int) < ((y527.length : Int) : Int) := ae_; omega); have p27 : 0 ≤ (0 : Int) := (by omega); have q27 : (0 : Int) < ((y527.length : Int) : Int) := ae_; have qi27 : (0 < y527.length) = True := eq_true (by omega); obtain ⟨hx27_0, hf27_0⟩ := Kd.R_celln (⟨#[]⟩ : ByteArray) HO529.out (0 : Int) p27 q27; (try rw [show ((0 : Int)).toNat = 0 from rfl] at hx27_0); (try simp only [Nat.reduceMul, Nat.zero_mul, Nat.zero_add, Nat.reduceAdd] at hx27_0); (try rw [show ((0 : Int)).toNat = 0 from rfl] at hf27_0); (try simp only [Nat.reduceMul, Nat.zero_mul, Nat.zero_add, Nat.reduceAdd] at hf27_0); replace p27 := eq_true p27; replace q27 := eq_true q27) | ((with_reducible refine gate_dst (N := 40) rfl ?_); (try (refine gate_guard (by rfl) ?_; dsimp only)); refine aslice_event (P := Tryz.prog) rfl (N := 40) rfl 113 9 2 _ _ rfl rfl Tryz.underlying113 (by go_simp) ?_) | ((with_reducible refine gate_callee (f := 42) rfl ?_); refine goesL_ (some 41) rfl rfl Tryz.func42 (by kernel_rfl) rfl #[.int .i64 4, .slice (some ⟨go14, 0, none⟩) y530.length 2] rfl (by (try simp only [List.map_toArray, List.map_cons, List.map_nil]); first | done | (rw [show y530.length = 2 from (by have e_ : y527.length = 2 := (by first | rfl | exact ae_); have e2_ := (Kd.R_reads' HO529.out).1; omega)] <;> rfl) | rfl | (simp only [List.length_drop, List.length_take]; rfl)) ?_; (with_reducible refine (sha_Tag.calls k2 4 _ _ y530 t533 _ ?side1 ?side2 ?side3 A28.out).mono ?_); (case side1 => repeat (first | exact (Kd.R_reads' HO529.out).2.2 | (with_reducible refine Kd.C_alloc ?_ _) | (with_reducible refine Kd.C_drewN ?_ _) | (with_reducible refine Kd.C_drew ?_))); (case side2 => rw [show y530.length = 2 from (by have e_ : y527.length = 2 := (by first | rfl | exact ae_); have e2_ := (Kd.R_reads' HO529.out).1; omega)]; first | done | exact Nat.le_refl _ | exact Nat.le_of_eq (by have e_ : y527.length = 2 := (by first | rfl | exact ae_); have e2_ := (Kd.R_reads' HO529.out).1; omega)); (case side3 => repeat (first | exact (Kd.C_below HRG.out HB.out) | (with_reducible refine Kd.C_alloc ?_ _) | (with_reducible refine Kd.C_drewN ?_ _) | (with_reducible refine Kd.C_drew ?_))); rintro e w34 ⟨rfl, hb⟩; refine ⟨_, rfl, ?_⟩; replace HB := Aside0.mk (below_step bl_ hb); replace HO529 := Aside0.mk (Kd.R_below (mv_ HO529.out) hb); (try clear hb); (try clear hb2); (try clear hk); (try clear hi)))
      go_roundg k2
      case measure => have := HJ3.out; have := HK2.out; omega
      case rel => exact ⟨(t533), (x1_2 / 2), (wrap64 (x27_2 + 1)), vq_, vq_, vq_, H', ⟨by have := HJ3.out; have := HK2.out; omega⟩, ⟨bl_⟩⟩
     rw [if_neg c9] at H
     have c9b0 : decide (x27_2 < (l2.length : Int)) = false := decide_eq_false c9
     clear c9
     simp only [Option.some.injEq, Prod.mk.injEq] at H
     obtain ⟨rfl, rfl⟩ := H
     go_wp2
     go_ret2
     exact ⟨er_, bl_⟩

/-! ### key_named: function 44 -/
def key_named.f (k : Nat) (a0 : Int) (a1 : ByteArray) : Option (ByteArray) := (octets_Byte.f k a0).bind fun bt534 => ((sha_Tag.f k 5 (([bt534.1, a1] : List ByteArray))).bind fun t539 => (some t539))
theorem key_named.mono : ∀ a0 a1 k, LeO (key_named.f k a0 a1) (key_named.f (k + 1) a0 a1) := by
 intro a0 a1 k
 unfold key_named.f
 repeat' first
  | (with_reducible exact octets_Byte.mono _ _)
  | (with_reducible exact sha_Tag.mono _ _ _)
  | (with_reducible exact LeO.refl _)
  | (with_reducible exact LeO.none _)
  | (with_reducible refine LeO.ite ?_ ?_)
  | (with_reducible refine LeO.bind ?_ (fun _ => ?_))
  | exact octets_Byte.mono _ _
  | exact sha_Tag.mono _ _ _
  | exact LeO.none _
  | refine LeO.ite ?_ ?_
  | refine LeO.bind ?_ (fun _ => ?_)
set_option maxHeartbeats 64000000 in
set_option maxRecDepth 100000 in
theorem key_named.calls (k : Nat) (a0 : Int) (a1 : ByteArray) (r : ByteArray) (w : World) (hrG : Kd.C (Kd.int .u32) w (some ⟨0, 0, none⟩) keysL.length keysL) (h : key_named.f k a0 a1 = some r) :
 Calls Tryz.prog 44 #[.int .i64 a0, .string a1] w fun e w' => e = .returned (.string r) ∧ Below w.heap.size w w' := by
 have HRG := Aside0.mk hrG
 clear hrG
 have HB := Aside0.mk (Below.refl w.heap.size w)
 have H : ((octets_Byte.f k a0).bind fun bt534 => ((sha_Tag.f k 5 (([bt534.1, a1] : List ByteArray))).bind fun t539 => (some t539))) = some r := h
 clear h
 replace H := ob_ H
 obtain ⟨⟨t534, t535⟩, A30, H⟩ := H
 replace H : ((sha_Tag.f k 5 (([t534, a1] : List ByteArray))).bind fun t539 => (some t539)) = some r := H
 have A3 := Aside0.mk A30
 clear A30
 generalize e_ : (([t534, a1] : List ByteArray) : List ByteArray) = y536 at H
 have Ny536 := Aside0.mk e_.symm
 clear e_
 revert H; refine oa_ fun t539 A4 H => ?_
 obtain rfl := Option.some.inj H
 go_enter Tryz.func44, Tryz.ntmps44
 go_wp2_with (first | ((with_reducible refine gate_callee (f := 76) rfl ?_); refine gL_ 9 Tryz.func76 #[.int .i64 a0] ?_; (with_reducible refine (octets_Byte.calls k a0 t534 t535 _ A3.out).mono ?_); rintro e w5 ⟨rfl, hb⟩; refine ⟨_, rfl, ?_⟩; replace HB := Aside0.mk (below_step bl_ hb); clear hb) | ((with_reducible refine gate_dst (N := 14) rfl ?_); refine Kd.R_lit Kd.string _ 9 ?hg (N := 14) ?hd (xs := ([t534, a1] : List ByteArray)) (inner := [.string t534, .string a1]) (ok := fun _ => True) (okp := fun _ => True) ?hr ?hp (fun _ hk => hk) trivial (Below.refl _ _) (Nat.le_refl _) (by simp) ?_; (case hd => rfl); (case hg => rfl); (case hr => exact gr_); (case hp => exact (Reps.one (show Kd.M Kd.string _ _ _ t534 [.string t534] from rfl) (Reps.one (show Kd.M Kd.string _ _ _ a1 [.string a1] from rfl) (Reps.none _ _)))); intro v537 w6 ho7 hb hg_ hnew_; clear hg_ hnew_; (first | rw [← Ny536.out] at ho7 | (simp only [Int.reduceToNat] at ho7; rw [← Ny536.out] at ho7)); have HO538 := Aside0.mk (Kd.R_lower ho7 (below_size bl_)); replace HB := Aside0.mk (below_step bl_ hb); clear hb ho7; obtain ⟨Ao8, co8, eo8⟩ := Kd.R_slice HO538.out; subst eo8) | ((with_reducible refine gate_callee (f := 42) rfl ?_); refine gL_ 15 Tryz.func42 #[.int .i64 5, .slice Ao8 y536.length co8] ?_; (with_reducible refine (sha_Tag.calls k 5 _ _ y536 t539 _ ?side1 ?side2 ?side3 A4.out).mono ?_); (case side1 => repeat (first | exact (Kd.R_reads' HO538.out).2.2 | (with_reducible refine Kd.C_alloc ?_ _) | (with_reducible refine Kd.C_drewN ?_ _) | (with_reducible refine Kd.C_drew ?_))); (case side2 => exact (Kd.R_reads' HO538.out).2.1); (case side3 => repeat (first | exact (Kd.C_below HRG.out HB.out) | (with_reducible refine Kd.C_alloc ?_ _) | (with_reducible refine Kd.C_drewN ?_ _) | (with_reducible refine Kd.C_drew ?_))); rintro e w9 ⟨rfl, hb⟩; refine ⟨_, rfl, ?_⟩; replace HB := Aside0.mk (below_step bl_ hb); replace HO538 := Aside0.mk (Kd.R_below (mv_ HO538.out) hb); clear hb))
 go_ret
 exact ⟨er_, bl_⟩

/-! ### key_Verify: function 14 (walked by hand) -/
def key_Verify.f (k : Nat) (a0 a1 a2 : ByteArray) : Option Bool :=
  (key_parts.f k a2).bind fun t => if t.2.2.2 = true then ((sha_Tag.f k 6 [a1]).bind fun d => (wots_Recover.f k d t.2.1).bind fun p => (merkle_Fold.f k p.1 t.1 t.2.2.1).bind fun q => (key_named.f k (t.2.2.1.length : Int) q.1).bind fun x => some (x.toList == a0.toList)) else some false
theorem key_Verify.mono : ∀ a0 a1 a2 k, LeO (key_Verify.f k a0 a1 a2) (key_Verify.f (k + 1) a0 a1 a2) := by
  intro a0 a1 a2 k
  unfold key_Verify.f
  exact LeO.bind (key_parts.mono _ _) fun _ => LeO.ite (LeO.bind (sha_Tag.mono _ _ _) fun _ => LeO.bind (wots_Recover.mono _ _ _) fun _ => LeO.bind (merkle_Fold.mono _ _ _ _) fun _ => LeO.bind (key_named.mono _ _ _) fun _ => LeO.refl _) (LeO.refl _)
set_option maxHeartbeats 8000000 in
set_option maxRecDepth 100000 in
theorem key_Verify.calls (k : Nat) (a0 a1 a2 : ByteArray) (r : Bool) (w : World) (hrG : Kd.C (Kd.int .u32) w (some ⟨0, 0, none⟩) keysL.length keysL) (h : key_Verify.f k a0 a1 a2 = some r) :
    Calls Tryz.prog 14 #[.string a0, .string a1, .string a2] w fun e w' => e = .returned (.bool r) ∧ Below w.heap.size w w' := by
  have HRG := Aside0.mk hrG
  have HB := Aside0.mk (Below.refl w.heap.size w)
  clear hrG
  unfold key_Verify.f at h
  replace h := Option.bind_eq_some_iff.mp h
  obtain ⟨⟨leaf, vs, ps, ok⟩, hP, h⟩ := h
  have A1 := Aside0.mk hP
  clear hP
  cases ok with
  | false =>
    obtain rfl := Option.some.inj (show some false = some r from h)
    clear h
    go_enter Tryz.func14, Tryz.ntmps14
    go_wp2_with (first | (go_at_call 40; (with_reducible refine (key_parts.calls k a2 leaf vs ps false _ A1.out).mono ?_); rintro e w1 ⟨P1, P2, q1, q2, rfl, hc1, hq1, hc2, hq2, hb⟩; have C1 := Aside0.mk hc1; have Q1 := Aside0.mk hq1; have C2 := Aside0.mk hc2; have Q2 := Aside0.mk hq2; have n0_ := Aside0.mk (below_step (by repeat (first | (with_reducible first | exact HB.out | apply lA_ | apply lN_ | apply lD_) | exact HB.out)) hb); clear HB; have HB := n0_; clear n0_; clear hb hc1 hq1 hc2 hq2))
    go_ret
    exact ⟨rfl, HB.out⟩
  | true =>
    replace h := Option.bind_eq_some_iff.mp (show (sha_Tag.f k 6 [a1]).bind (fun d => (wots_Recover.f k d vs).bind fun p => (merkle_Fold.f k p.1 leaf ps).bind fun q => (key_named.f k (ps.length : Int) q.1).bind fun x => some (x.toList == a0.toList)) = some r from h)
    obtain ⟨d, hD, h⟩ := h
    replace h := Option.bind_eq_some_iff.mp h
    obtain ⟨⟨p, po⟩, hR, h⟩ := h
    replace h := Option.bind_eq_some_iff.mp h
    obtain ⟨⟨q, qo⟩, hF, h⟩ := h
    replace h := Option.bind_eq_some_iff.mp h
    obtain ⟨x, hN, h⟩ := h
    obtain rfl := Option.some.inj h
    obtain ⟨ym, hym⟩ : ∃ y_ : List ByteArray, y_ = [a1] := ⟨_, rfl⟩
    rw [← hym] at hD
    have Nym := Aside0.mk hym
    have A2 := Aside0.mk hD
    have A3 := Aside0.mk hR
    have A4 := Aside0.mk hF
    have A5 := Aside0.mk hN
    clear h hD hR hF hN hym
    go_enter Tryz.func14, Tryz.ntmps14
    go_wp2_with (first | (go_at_call 40; (with_reducible refine (key_parts.calls k a2 leaf vs ps true _ A1.out).mono ?_); rintro e w1 ⟨P1, P2, q1, q2, rfl, hc1, hq1, hc2, hq2, hb⟩; have C1 := Aside0.mk hc1; have Q1 := Aside0.mk hq1; have C2 := Aside0.mk hc2; have Q2 := Aside0.mk hq2; have n0_ := Aside0.mk (below_step (by repeat (first | (with_reducible first | exact HB.out | apply lA_ | apply lN_ | apply lD_) | exact HB.out)) hb); clear HB; have HB := n0_; clear n0_; clear hb hc1 hq1 hc2 hq2) | ((with_reducible refine gate_dst (N := 26) rfl ?_); refine Kd.R_lit Kd.string _ 9 ?hg (N := 26) ?hd (xs := ([a1] : List ByteArray)) (inner := [.string a1]) (ok := fun _ => True) (okp := fun _ => True) ?hr ?hp (fun _ hk => hk) trivial (Below.refl _ _) (Nat.le_refl _) (by simp) ?_; (case hd => rfl); (case hg => rfl); (case hr => first | (go_simp; done) | (go_simp; rfl)); (case hp => exact (Reps.one (show Kd.M Kd.string _ _ _ a1 [.string a1] from rfl) (Reps.none _ _))); intro v2 w2 ho hb hg_ hnew_; clear hg_ hnew_; (first | rw [← Nym.out] at ho | (simp only [Int.reduceToNat] at ho; rw [← Nym.out] at ho)); have m_ := Aside0.mk (Kd.C_below (by repeat (first | exact C1.out | (with_reducible refine Kd.C_alloc ?_ _) | (with_reducible refine Kd.C_drewN ?_ _) | (with_reducible refine Kd.C_drew ?_))) hb); clear C1; have C1 := m_; clear m_; have m_ := Aside0.mk (Kd.C_below (by repeat (first | exact C2.out | (with_reducible refine Kd.C_alloc ?_ _) | (with_reducible refine Kd.C_drewN ?_ _) | (with_reducible refine Kd.C_drew ?_))) hb); clear C2; have C2 := m_; clear m_; have HO := Aside0.mk ho; have n0_ := Aside0.mk (below_step (by repeat (first | (with_reducible first | exact HB.out | apply lA_ | apply lN_ | apply lD_) | exact HB.out)) hb); clear HB; have HB := n0_; clear n0_; clear hb ho; obtain ⟨Ao, co, eo⟩ := Kd.R_slice HO.out; subst eo) | (go_at_call 42; (with_reducible refine (sha_Tag.calls k 6 _ _ ym d _ ?side1 ?side2 ?side3 A2.out).mono ?_); (case side1 => repeat (first | exact (Kd.R_reads' HO.out).2.2 | (with_reducible refine Kd.C_alloc ?_ _) | (with_reducible refine Kd.C_drewN ?_ _) | (with_reducible refine Kd.C_drew ?_))); (case side2 => exact (Kd.R_reads' HO.out).2.1); (case side3 => repeat (first | exact (Kd.C_below HRG.out HB.out) | (with_reducible refine Kd.C_alloc ?_ _) | (with_reducible refine Kd.C_drewN ?_ _) | (with_reducible refine Kd.C_drew ?_))); rintro e w3 ⟨rfl, hb⟩; have m_ := Aside0.mk (Kd.C_below (by repeat (first | exact C1.out | (with_reducible refine Kd.C_alloc ?_ _) | (with_reducible refine Kd.C_drewN ?_ _) | (with_reducible refine Kd.C_drew ?_))) hb); clear C1; have C1 := m_; clear m_; have m_ := Aside0.mk (Kd.C_below (by repeat (first | exact C2.out | (with_reducible refine Kd.C_alloc ?_ _) | (with_reducible refine Kd.C_drewN ?_ _) | (with_reducible refine Kd.C_drew ?_))) hb); clear C2; have C2 := m_; clear m_; have n0_ := Aside0.mk (below_step (by repeat (first | (with_reducible first | exact HB.out | apply lA_ | apply lN_ | apply lD_) | exact HB.out)) hb); clear HB; have HB := n0_; clear n0_; clear hb) | (go_at_call 41; (with_reducible refine (wots_Recover.calls k d _ _ vs p po _ ?side1 ?side2 ?side3 A3.out).mono ?_); (case side1 => repeat (first | exact C1.out | (with_reducible refine Kd.C_alloc ?_ _) | (with_reducible refine Kd.C_drewN ?_ _) | (with_reducible refine Kd.C_drew ?_))); (case side2 => exact Q1.out); (case side3 => repeat (first | exact (Kd.C_below HRG.out HB.out) | (with_reducible refine Kd.C_alloc ?_ _) | (with_reducible refine Kd.C_drewN ?_ _) | (with_reducible refine Kd.C_drew ?_))); rintro e w4 ⟨rfl, hb⟩; have m_ := Aside0.mk (Kd.C_below (by repeat (first | exact C2.out | (with_reducible refine Kd.C_alloc ?_ _) | (with_reducible refine Kd.C_drewN ?_ _) | (with_reducible refine Kd.C_drew ?_))) hb); clear C2; have C2 := m_; clear m_; have n0_ := Aside0.mk (below_step (by repeat (first | (with_reducible first | exact HB.out | apply lA_ | apply lN_ | apply lD_) | exact HB.out)) hb); clear HB; have HB := n0_; clear n0_; clear hb) | (go_at_call 43; (with_reducible refine (merkle_Fold.calls k p leaf _ _ ps q qo _ ?side1 ?side2 ?side3 A4.out).mono ?_); (case side1 => repeat (first | exact C2.out | (with_reducible refine Kd.C_alloc ?_ _) | (with_reducible refine Kd.C_drewN ?_ _) | (with_reducible refine Kd.C_drew ?_))); (case side2 => exact Q2.out); (case side3 => repeat (first | exact (Kd.C_below HRG.out HB.out) | (with_reducible refine Kd.C_alloc ?_ _) | (with_reducible refine Kd.C_drewN ?_ _) | (with_reducible refine Kd.C_drew ?_))); rintro e w5 ⟨rfl, hb⟩; have n0_ := Aside0.mk (below_step (by repeat (first | (with_reducible first | exact HB.out | apply lA_ | apply lN_ | apply lD_) | exact HB.out)) hb); clear HB; have HB := n0_; clear n0_; clear hb) | (go_at_call 44; (with_reducible refine (key_named.calls k (ps.length : Int) q x _ ?side1 A5.out).mono ?_); (case side1 => repeat (first | exact (Kd.C_below HRG.out HB.out) | (with_reducible refine Kd.C_alloc ?_ _) | (with_reducible refine Kd.C_drewN ?_ _) | (with_reducible refine Kd.C_drew ?_))); rintro e w6 ⟨rfl, hb⟩; have n0_ := Aside0.mk (below_step (by repeat (first | (with_reducible first | exact HB.out | apply lA_ | apply lN_ | apply lD_) | exact HB.out)) hb); clear HB; have HB := n0_; clear n0_; clear hb))
    go_ret
    exact ⟨rfl, HB.out⟩

/-! ### palaverlaw05_small: function 16 -/
def palaverlaw05_small.f (a0 : Int) : Option (Int) := some (wrap64 (Int.tmod (IntKind.u64.wrap (a0)) 3))
set_option maxHeartbeats 64000000 in
set_option maxRecDepth 100000 in
theorem palaverlaw05_small.calls (a0 : Int) (r : Int) (w : World) (h : palaverlaw05_small.f a0 = some r) :
 Calls Tryz.prog 16 #[.int .i64 a0] w fun e w' => e = .returned (.int .i64 r) ∧ Drawn0 w w' := by
 have H : (some (wrap64 (Int.tmod (IntKind.u64.wrap (a0)) 3))) = some r := h
 clear h
 obtain rfl := Option.some.inj H
 go_enter Tryz.func16, Tryz.ntmps16
 go_wp2
 go_ret
 exact ⟨by first | rfl | (simp; done) | (simp [*]; done) | exact congrArg Value.bool (nonempty_l _) | (refine congrArg (Value.int _) ?_; first | omega | (unfold wrap64; omega)), by repeat (first | exact Drawn0.refl _ | apply Drawn0.step)⟩

/-! ### merkle_Root: function 53 -/
def merkle_Root.f (k : Nat) (l0 : List ByteArray) : Option (ByteArray × Bool) := (merkle_leaves.f (l0.length : Int)).bind fun t540 => (if t540 = true then ((merkle_root.f k l0).bind fun t541 => (some (t541, true))) else (some ((⟨#[]⟩ : ByteArray), false)))
theorem merkle_Root.mono : ∀ a0 k, LeO (merkle_Root.f k a0) (merkle_Root.f (k + 1) a0) := by
 intro a0 k
 unfold merkle_Root.f
 repeat' first
  | (with_reducible exact merkle_root.mono _ _)
  | (with_reducible exact LeO.refl _)
  | (with_reducible exact LeO.none _)
  | (with_reducible refine LeO.ite ?_ ?_)
  | (with_reducible refine LeO.bind ?_ (fun _ => ?_))
  | exact merkle_root.mono _ _
  | exact LeO.none _
  | refine LeO.ite ?_ ?_
  | refine LeO.bind ?_ (fun _ => ?_)
set_option maxHeartbeats 64000000 in
set_option maxRecDepth 100000 in
theorem merkle_Root.calls (k : Nat) (A0 : Option Addr) (c0 : Nat) (l0 : List ByteArray) (r1 : ByteArray) (r2 : Bool) (w : World) (hr0 : Kd.C Kd.string w A0 l0.length l0) (hc0 : l0.length ≤ c0) (hrG : Kd.C (Kd.int .u32) w (some ⟨0, 0, none⟩) keysL.length keysL) (h : merkle_Root.f k l0 = some (r1, r2)) :
 Calls Tryz.prog 53 #[.slice A0 l0.length c0] w fun e w' => e = .returned (.tuple #[.string r1, .bool r2]) ∧ Below w.heap.size w w' := by
 have HR0 := Aside0.mk hr0
 have HC0 := Aside0.mk hc0
 clear hr0 hc0
 have HRG := Aside0.mk hrG
 clear hrG
 have HB := Aside0.mk (Below.refl w.heap.size w)
 have H : ((merkle_leaves.f (l0.length : Int)).bind fun t540 => (if t540 = true then ((merkle_root.f k l0).bind fun t541 => (some (t541, true))) else (some ((⟨#[]⟩ : ByteArray), false)))) = some (r1, r2) := h
 clear h
 revert H; refine oa_ fun t540 A2 H => ?_
 by_cases c3 : t540 = true
 ·subst c3
  have H1 : ((merkle_root.f k l0).bind fun t541 => (some (t541, true))) = some (r1, r2) := by rw [if_pos rfl] at H; exact H
  clear H
  have H := H1
  clear H1
  revert H; refine oa_ fun t541 A4 H => ?_
  simp only [Option.some.injEq, Prod.mk.injEq] at H
  obtain ⟨rfl, rfl⟩ := H
  go_enter Tryz.func53, Tryz.ntmps53
  go_wp2_with (first | ((with_reducible refine gate_callee (f := 84) rfl ?_); refine gL_ 6 Tryz.func84 #[.int .i64 (l0.length : Int)] ?_; (with_reducible refine (merkle_leaves.calls (l0.length : Int) true _ A2.out).mono ?_); rintro e w' ⟨rfl, ⟨nd, rfl⟩⟩; refine ⟨_, rfl, ?_⟩) | ((with_reducible refine gate_callee (f := 85) rfl ?_); refine gL_ 9 Tryz.func85 #[.slice A0 l0.length c0] ?_; (with_reducible refine (merkle_root.calls k _ _ l0 t541 _ ?side1 ?side2 ?side3 A4.out).mono ?_); (case side1 => repeat (first | exact HR0.out | (with_reducible refine Kd.C_alloc ?_ _) | (with_reducible refine Kd.C_drewN ?_ _) | (with_reducible refine Kd.C_drew ?_))); (case side2 => exact HC0.out); (case side3 => repeat (first | exact HRG.out | (with_reducible refine Kd.C_alloc ?_ _) | (with_reducible refine Kd.C_drewN ?_ _) | (with_reducible refine Kd.C_drew ?_))); rintro e w5 ⟨rfl, hb⟩; refine ⟨_, rfl, ?_⟩; replace HB := Aside0.mk (below_step bl_ hb); (try clear hb); (try clear hb2); (try clear hk); (try clear hi)))
  go_ret2
  exact ⟨er_, bl_⟩
 replace c3 := Bool.eq_false_iff.mpr c3
 subst c3
 have H1 : (some ((⟨#[]⟩ : ByteArray), false)) = some (r1, r2) := by rw [if_neg (show ¬ (false = true) by decide)] at H; exact H
 clear H
 have H := H1
 clear H1
 simp only [Option.some.injEq, Prod.mk.injEq] at H
 obtain ⟨rfl, rfl⟩ := H
 go_enter Tryz.func53, Tryz.ntmps53
 go_wp2_with (first | ((with_reducible refine gate_callee (f := 84) rfl ?_); refine gL_ 6 Tryz.func84 #[.int .i64 (l0.length : Int)] ?_; (with_reducible refine (merkle_leaves.calls (l0.length : Int) false _ A2.out).mono ?_); rintro e w' ⟨rfl, ⟨nd, rfl⟩⟩; refine ⟨_, rfl, ?_⟩))
 go_ret2
 exact ⟨er_, bl_⟩

-- NOT PRINTED: function 18 (key_Key_Public)

/-! ### palaverref05_Both: function 20 -/
def palaverref05_Both.f (l0 : List ByteArray) (l1 : List ByteArray) : Option (List ByteArray) := if ([] : List ByteArray).length + l0.length < 8796093022208 then ((some (([] : List ByteArray) ++ l0 : List ByteArray)).bind fun y542 => (if y542.length + l1.length < 8796093022208 then (some (y542 ++ l1)) else (none))) else (none)
set_option maxHeartbeats 64000000 in
set_option maxRecDepth 100000 in
theorem palaverref05_Both.calls (A0 : Option Addr) (c0 : Nat) (l0 : List ByteArray) (A1 : Option Addr) (c1 : Nat) (l1 : List ByteArray) (r : List ByteArray) (w : World) (hr0 : Kd.C Kd.string w A0 l0.length l0) (hc0 : l0.length ≤ c0) (hr1 : Kd.C Kd.string w A1 l1.length l1) (hc1 : l1.length ≤ c1) (h : palaverref05_Both.f l0 l1 = some r) :
 Calls Tryz.prog 20 #[.slice A0 l0.length c0, .slice A1 l1.length c1] w fun e w' => ∃ v0_ : Value, e = .returned (v0_) ∧ Kd.R Kd.string 9 w' w.heap.size (fun _ => True) v0_ r ∧ Below w.heap.size w w' := by
 have HR0 := Aside0.mk hr0
 have HC0 := Aside0.mk hc0
 clear hr0 hc0
 have HR1 := Aside0.mk hr1
 have HC1 := Aside0.mk hc1
 clear hr1 hc1
 have HB := Aside0.mk (Below.refl w.heap.size w)
 have H : (if ([] : List ByteArray).length + l0.length < 8796093022208 then ((some (([] : List ByteArray) ++ l0 : List ByteArray)).bind fun y542 => (if y542.length + l1.length < 8796093022208 then (some (y542 ++ l1)) else (none))) else (none)) = some r := h
 clear h
 revert H; refine nc_ fun c3 => oy_ fun y542 Ny542 => nc_ fun c4 H => ?_
 have LMc3 := Aside0.mk c3
 have LMc4 := Aside0.mk c4
 clear c3 c4
 generalize e_ : (y542 ++ l1 : List ByteArray) = y545 at H
 have Ny545 := Aside0.mk e_.symm
 clear e_
 obtain rfl := Option.some.inj H
 go_enter Tryz.func20, Tryz.ntmps20
 go_wp2_with (first | ((with_reducible refine gate_builtin (b := .append) (xs := #[.tmp 6, .tmp 7]) rfl ?_); at_builtin; refine Kd.R_append_rows Kd.string (w0 := w) w.heap.size rfl (.tmp 6) (.tmp 7) 24 9 (.string ⟨#[]⟩) 16 rfl Tryz.underlying24 info9 rfl (by decide) (by omega) (.slice none 0 0) ([] : List ByteArray) l0 _ _ _ (fun _ => True) (fun _ => False) rfl rfl ?aO ?aR (fun _ _ h => h) (fun _ h => h.elim) ?aF ?aB ?aS ?aL ?_; (case aR => repeat (first | exact HR0.out | (with_reducible refine Kd.C_alloc ?_ _) | (with_reducible refine Kd.C_drewN ?_ _) | (with_reducible refine Kd.C_drew ?_))); (case aB => exact bl_); (case aF => exact (fun _ _ => trivial)); (case aO => exact ((Kd.R_nil _ _ _ _ (fun _ => True)))); (case aS => exact (below_size bl_)); (case aL => have := LMc3.out; omega); intro v543 w5 ho hb hg hat; rw [← Ny542.out] at ho; have HO544 := Aside0.mk (ho); replace HB := Aside0.mk (hb); clear ho hb hg hat) | ((with_reducible refine gate_builtin (b := .append) (xs := #[.tmp 9, .tmp 10]) rfl ?_); at_builtin; refine Kd.R_append_rows Kd.string (w0 := w) w.heap.size rfl (.tmp 9) (.tmp 10) 24 9 (.string ⟨#[]⟩) 16 rfl Tryz.underlying24 info9 rfl (by decide) (by omega) v543 y542 l1 _ _ _ (fun _ => True) (fun _ => False) rfl rfl ?aO ?aR (fun _ _ h => h) (fun _ h => h.elim) ?aF ?aB ?aS ?aL ?_; (case aR => repeat (first | exact (Kd.C_below HR1.out HB.out) | (with_reducible refine Kd.C_alloc ?_ _) | (with_reducible refine Kd.C_drewN ?_ _) | (with_reducible refine Kd.C_drew ?_))); (case aB => exact bl_); (case aF => exact (fun _ _ => trivial)); (case aO => exact (mv_ HO544.out)); (case aS => exact (below_size bl_)); (case aL => have := LMc4.out; omega); intro v546 w6 ho hb hg hat; rw [← Ny545.out] at ho; have HO547 := Aside0.mk (ho); replace HB := Aside0.mk (hb); clear HO544; clear ho hb hg hat))
 go_ret
 exact ⟨_, er_, mv_ HO547.out, bl_⟩

/-! ### palaverref05_Clash: function 19 -/
mutual
def palaverref05_Clash.l0 : Nat → List ByteArray → List ByteArray → Int → Option (Bool)
 | 0, _, _, _ => none
 | k + 1, x0, x3, x4 => if x4 < (x0.length : Int) then (if 0 ≤ x4 then ((palaverref02_Sum.f k (rdOf ByteArray.empty x0 x4)).bind fun t552 => (if x4 < (x3.length : Int) then (palaverref05_Clash.l0 k x0 (x3.set (x4 : Int).toNat t552) (wrap64 (x4 + 1))) else (none))) else (none)) else (palaverref05_Clash.l1 k x0 x3 0)
def palaverref05_Clash.l1 : Nat → List ByteArray → List ByteArray → Int → Option (Bool)
 | 0, _, _, _ => none
 | k + 1, x0, x3, x5 => if x5 < (x0.length : Int) then (palaverref05_Clash.l2 k x0 x3 x5 0) else (some false)
def palaverref05_Clash.l2 : Nat → List ByteArray → List ByteArray → Int → Int → Option (Bool)
 | 0, _, _, _, _ => none
 | k + 1, x0, x3, x5, x6 => if x6 < x5 then (if 0 ≤ x5 then (if x5 < (x3.length : Int) then (if 0 ≤ x6 then (if x6 < (x3.length : Int) then (if (rdOf ByteArray.empty x3 x5).toList = (rdOf ByteArray.empty x3 x6).toList then (if x5 < (x0.length : Int) then (if x6 < (x0.length : Int) then (if (rdOf ByteArray.empty x0 x5).toList = (rdOf ByteArray.empty x0 x6).toList then (palaverref05_Clash.l2 k x0 x3 x5 (wrap64 (x6 + 1))) else (some true)) else (none)) else (none)) else (palaverref05_Clash.l2 k x0 x3 x5 (wrap64 (x6 + 1)))) else (none)) else (none)) else (none)) else (none)) else (palaverref05_Clash.l1 k x0 x3 (wrap64 (x5 + 1)))
end
def palaverref05_Clash.f (k : Nat) (l0 : List ByteArray) : Option (Bool) := if 0 ≤ (l0.length : Int) then (if ((l0.length : Int) : Int).toNat ≤ 17592186044416 then (palaverref05_Clash.l0 k l0 (List.replicate ((l0.length : Int) : Int).toNat (⟨#[]⟩ : ByteArray)) 0) else (none)) else (none)
theorem palaverref05_Clash.mono_l : ∀ k, (∀ y0 y1 y2, LeO (palaverref05_Clash.l0 k y0 y1 y2) (palaverref05_Clash.l0 (k + 1) y0 y1 y2)) ∧ (∀ y0 y1 y2, LeO (palaverref05_Clash.l1 k y0 y1 y2) (palaverref05_Clash.l1 (k + 1) y0 y1 y2)) ∧ (∀ y0 y1 y2 y3, LeO (palaverref05_Clash.l2 k y0 y1 y2 y3) (palaverref05_Clash.l2 (k + 1) y0 y1 y2 y3))
 | 0 => ⟨fun _ _ _ r h => by simp [palaverref05_Clash.l0] at h, fun _ _ _ r h => by simp [palaverref05_Clash.l1] at h, fun _ _ _ _ r h => by simp [palaverref05_Clash.l2] at h⟩
 | k + 1 => by
  obtain ⟨ih0, ih1, ih2⟩ := palaverref05_Clash.mono_l k
  refine ⟨?_, ?_, ?_⟩ <;> intros <;> (first | unfold palaverref05_Clash.l0 | unfold palaverref05_Clash.l1 | unfold palaverref05_Clash.l2) <;> repeat' first
  | (with_reducible exact ih0 _ _ _)
  | (with_reducible exact ih1 _ _ _)
  | (with_reducible exact ih2 _ _ _ _)
  | (with_reducible exact palaverref02_Sum.mono _ _)
  | (with_reducible exact LeO.refl _)
  | (with_reducible exact LeO.none _)
  | (with_reducible refine LeO.ite ?_ ?_)
  | (with_reducible refine LeO.bind ?_ (fun _ => ?_))
  | exact ih0 _ _ _
  | exact ih1 _ _ _
  | exact ih2 _ _ _ _
  | exact palaverref02_Sum.mono _ _
  | exact LeO.none _
  | refine LeO.ite ?_ ?_
  | refine LeO.bind ?_ (fun _ => ?_)
theorem palaverref05_Clash.mono : ∀ a0 k, LeO (palaverref05_Clash.f k a0) (palaverref05_Clash.f (k + 1) a0) := by
 intro a0 k
 obtain ⟨ih0, ih1, ih2⟩ := palaverref05_Clash.mono_l k
 unfold palaverref05_Clash.f
 repeat' first
  | (with_reducible exact ih0 _ _ _)
  | (with_reducible exact ih1 _ _ _)
  | (with_reducible exact ih2 _ _ _ _)
  | (with_reducible exact palaverref02_Sum.mono _ _)
  | (with_reducible exact LeO.refl _)
  | (with_reducible exact LeO.none _)
  | (with_reducible refine LeO.ite ?_ ?_)
  | (with_reducible refine LeO.bind ?_ (fun _ => ?_))
  | exact ih0 _ _ _
  | exact ih1 _ _ _
  | exact ih2 _ _ _ _
  | exact palaverref02_Sum.mono _ _
  | exact LeO.none _
  | refine LeO.ite ?_ ?_
  | refine LeO.bind ?_ (fun _ => ?_)
set_option maxHeartbeats 64000000 in
set_option maxRecDepth 100000 in
theorem palaverref05_Clash.calls (k : Nat) (A0 : Option Addr) (c0 : Nat) (l0 : List ByteArray) (r : Bool) (w : World) (hr0 : Kd.C Kd.string w A0 l0.length l0) (hc0 : l0.length ≤ c0) (h : palaverref05_Clash.f k l0 = some r) :
 Calls Tryz.prog 19 #[.slice A0 l0.length c0] w fun e w' => e = .returned (.bool r) ∧ Below w.heap.size w w' := by
 have HR0 := Aside0.mk hr0
 have HC0 := Aside0.mk hc0
 clear hr0 hc0
 have HB := Aside0.mk (Below.refl w.heap.size w)
 have H : (if 0 ≤ (l0.length : Int) then (if ((l0.length : Int) : Int).toNat ≤ 17592186044416 then (palaverref05_Clash.l0 k l0 (List.replicate ((l0.length : Int) : Int).toNat (⟨#[]⟩ : ByteArray)) 0) else (none)) else (none)) = some r := h
 clear h
 revert H; refine ne_ fun c2 c2b0 c2b1 => ne_ fun c3 c3b0 c3b1 H => ?_
 clear c2 c3
 generalize e_ : (List.replicate ((l0.length : Int) : Int).toNat (⟨#[]⟩ : ByteArray) : List ByteArray) = y548 at H
 have Ny548 := Aside0.mk e_.symm
 clear e_
 have H' := Aside0.mk H
 clear H
 go_enter Tryz.func19, Tryz.ntmps19
 go_wp2_with (first | ((with_reducible refine gate_dst (N := 9) rfl ?_); refine Kd.R_make Kd.string _ 9 rfl (N := 9) rfl 24 _ _ rfl (l0.length : Int) rfl rfl Tryz.underlying24 (.string ⟨#[]⟩) 16 info9 rfl (by decide) (by omega) (⟨#[]⟩ : ByteArray) (ok := fun _ => True) (okp := fun _ => True) rfl (fun _ hk => hk) trivial (ae_) (Nat.le_trans (Nat.mul_le_mul_right _ (ae_ : (l0.length : Int).toNat ≤ 17592186044416)) (by omega)) (Below.refl _ _) (Nat.le_refl _) ?_; intro v549 w4 ho5 hb hg_ hnew_; clear hg_ hnew_; (first | rw [← Ny548.out] at ho5 | (simp only [Int.reduceToNat] at ho5; rw [← Ny548.out] at ho5)); have HO550 := Aside0.mk (Kd.R_lower ho5 (below_size bl_)); replace HB := Aside0.mk (below_step bl_ hb); clear hb ho5))
 repeat (go_quiet (first | ((with_reducible refine gate_dst (N := 9) rfl ?_); refine Kd.R_make Kd.string _ 9 rfl (N := 9) rfl 24 _ _ rfl (l0.length : Int) rfl rfl Tryz.underlying24 (.string ⟨#[]⟩) 16 info9 rfl (by decide) (by omega) (⟨#[]⟩ : ByteArray) (ok := fun _ => True) (okp := fun _ => True) rfl (fun _ hk => hk) trivial (ae_) (Nat.le_trans (Nat.mul_le_mul_right _ (ae_ : (l0.length : Int).toNat ≤ 17592186044416)) (by omega)) (Below.refl _ _) (Nat.le_refl _) ?_; intro v549 w4 ho5 hb hg_ hnew_; clear hg_ hnew_; (first | rw [← Ny548.out] at ho5 | (simp only [Int.reduceToNat] at ho5; rw [← Ny548.out] at ho5)); have HO550 := Aside0.mk (Kd.R_lower ho5 (below_size bl_)); replace HB := Aside0.mk (below_step bl_ hb); clear hb ho5)); try go_wp2_with (first | ((with_reducible refine gate_dst (N := 9) rfl ?_); refine Kd.R_make Kd.string _ 9 rfl (N := 9) rfl 24 _ _ rfl (l0.length : Int) rfl rfl Tryz.underlying24 (.string ⟨#[]⟩) 16 info9 rfl (by decide) (by omega) (⟨#[]⟩ : ByteArray) (ok := fun _ => True) (okp := fun _ => True) rfl (fun _ hk => hk) trivial (ae_) (Nat.le_trans (Nat.mul_le_mul_right _ (ae_ : (l0.length : Int).toNat ≤ 17592186044416)) (by omega)) (Below.refl _ _) (Nat.le_refl _) ?_; intro v549 w4 ho5 hb hg_ hnew_; clear hg_ hnew_; (first | rw [← Ny548.out] at ho5 | (simp only [Int.reduceToNat] at ho5; rw [← Ny548.out] at ho5)); have HO550 := Aside0.mk (Kd.R_lower ho5 (below_size bl_)); replace HB := Aside0.mk (below_step bl_ hb); clear hb ho5)))
 go_loopg [4] k (fun kq v4 w' => ∃ (x3_1 : List ByteArray) (x4_1 : Int), v4 = .int .i64 x4_1 ∧ Aside0 (palaverref05_Clash.l0 kq l0 x3_1 x4_1 = some r) ∧ Aside0 (kq ≤ k) ∧ Aside0 (Kd.R Kd.string 9 w' w.heap.size (fun _ => True) v549 x3_1) ∧ Aside0 (Below w.heap.size w w'))
 case atStart => exact ⟨(y548), (0), vq_, H', ⟨Nat.le_refl _⟩, ⟨mv_ HO550.out⟩, ⟨bl_⟩⟩
 case round =>
  clear H'
  (try clear c1); (try clear c2); (try clear c2b0); (try clear c2b1); (try clear p2); (try clear c3); (try clear c3b0); (try clear c3b1)
  obtain ⟨x3_1, x4_1, rfl, HA, HK1, HO_3, HB⟩ := hrel
  cases gk with
  | zero => exact absurd HA.out (by simp [palaverref05_Clash.l0])
  | succ k1 =>
   have H := HA.out
   clear HA
   simp only [palaverref05_Clash.l0] at H
   by_cases c6 : x4_1 < (l0.length : Int)
   ·rw [if_pos c6] at H
    have c6b0 : decide (x4_1 < (l0.length : Int)) = true := decide_eq_true c6
    clear c6
    revert H; refine nd_ fun c7 c7b0 => oa_ fun t552 A8 => nd_ fun c9 c9b0 H => ?_
    clear c7 c9
    generalize e_ : (x3_1.set (x4_1 : Int).toNat t552 : List ByteArray) = y553 at H
    have Ny553 := Aside0.mk e_.symm
    clear e_
    have H' := Aside0.mk H
    clear H
    have p551 : 0 ≤ (x4_1 : Int) := ae_
    have q551 : x4_1 < (l0.length : Int) := ae_
    obtain ⟨ad551, e551, hx551_0⟩ := Kd.at_string HR0.out x4_1 p551 q551
    cases e551
    replace hx551_0 := (HB.out.cell (World.block_lt_of_cell? w _ hx551_0)).trans hx551_0
    replace p551 := eq_true p551
    replace q551 := eq_true q551
    go_wp2_with (first | (go_at_call 54; (with_reducible refine (palaverref02_Sum.calls k1 (rdOf ByteArray.empty l0 x4_1) t552 _ A8.out).mono ?_); rintro e w11 ⟨rfl, hb⟩; replace HB := Aside0.mk (below_step bl_ hb); replace HO_3 := Aside0.mk (Kd.R_below (mv_ HO_3.out) hb); (try clear hb); (try clear hb2); (try clear hk); (try clear hi); have p10 : 0 ≤ (x4_1 : Int) := ae_; have q10 : (x4_1 : Int) < ((x3_1.length : Int) : Int) := ae_; obtain ⟨go10, co10, eo10, gb10, gl10, cl10, HG10⟩ := Kd.R_form HO_3.out (by omega); (first | cases eo10 | (injection eo10 with ea_ en_ ec_; (first | subst ea_ | (injection ea_ with ea_; subst ea_)); subst ec_; clear en_)); have GB10 := Aside0.mk gb10; have GG10 := Aside0.mk HG10; clear gb10 gl10 HG10; obtain ⟨hx10_0, hf10_0⟩ := Kd.R_celln (⟨#[]⟩ : ByteArray) HO_3.out (x4_1 : Int) p10 q10; replace p10 := eq_true p10; replace q10 := eq_true q10; obtain ⟨hy12_, hz12_⟩ := Kd.R_celln (⟨#[]⟩ : ByteArray) HO_3.out (x4_1 : Int) (ae_) (ae_); have HP12 := Kd.R_putg HO_3.out (x4_1 : Int) t552) | ((with_reducible refine gate_store (t := 9) (p := 23) rfl ?_); (try (rw [drewN_self w11]; generalize hq_ : World.drewN w11 _ = w11; have n0_ := Aside0.mk (Kd.R_at hq_ HO_3.out); have n1_ := Aside0.mk (below_at hq_ HB.out); clear hq_ HO_3 HB; have HO_3 := n0_; have HB := n1_; clear n0_ n1_; (try (try (obtain ⟨hx10_0, hf10_0⟩ := Kd.R_celln (⟨#[]⟩ : ByteArray) HO_3.out (x4_1 : Int) (by first | exact p10 | exact of_eq_true p10) (by first | exact q10 | exact of_eq_true q10)))); (try (obtain ⟨hy12_, hz12_⟩ := Kd.R_celln (⟨#[]⟩ : ByteArray) HO_3.out (x4_1 : Int) (ae_) (ae_))); (try (have HP12 := Kd.R_putg HO_3.out (x4_1 : Int) t552)))); refine store_event (t := 9) (p := 23) (v := ?vo_w13) (w1 := (w11.setCell ⟨go10, (x4_1 : Int).toNat, none⟩ (.string t552))) ?hg ?ho ?hn ?hr ?_; (case ho => rfl); (case hg => rfl); (case hn => rfl); (case hr => exact gr_); intro w13 hw; have hg : w11.grownBy w13 (some go10) := (by rw [hw]; exact HP12.2); have hp_ : Kd.R Kd.string 9 w13 w.heap.size (fun _ => True) (.slice (some ⟨go10, 0, none⟩) x3_1.length co10) y553 := (by rw [hw, Ny553.out]; exact HP12.1); clear HP12; replace HB := Aside0.mk ((by rw [hw]; exact below_set (HB.out) GB10.out : Below w.heap.size w w13)); replace HO_3 := Aside0.mk (hp_); clear hg hw hp_))
    repeat (go_quiet (first | (go_at_call 54; (with_reducible refine (palaverref02_Sum.calls k1 (rdOf ByteArray.empty l0 x4_1) t552 _ A8.out).mono ?_); rintro e w11 ⟨rfl, hb⟩; replace HB := Aside0.mk (below_step bl_ hb); replace HO_3 := Aside0.mk (Kd.R_below (mv_ HO_3.out) hb); (try clear hb); (try clear hb2); (try clear hk); (try clear hi); have p10 : 0 ≤ (x4_1 : Int) := ae_; have q10 : (x4_1 : Int) < ((x3_1.length : Int) : Int) := ae_; obtain ⟨go10, co10, eo10, gb10, gl10, cl10, HG10⟩ := Kd.R_form HO_3.out (by omega); (first | cases eo10 | (injection eo10 with ea_ en_ ec_; (first | subst ea_ | (injection ea_ with ea_; subst ea_)); subst ec_; clear en_)); have GB10 := Aside0.mk gb10; have GG10 := Aside0.mk HG10; clear gb10 gl10 HG10; obtain ⟨hx10_0, hf10_0⟩ := Kd.R_celln (⟨#[]⟩ : ByteArray) HO_3.out (x4_1 : Int) p10 q10; replace p10 := eq_true p10; replace q10 := eq_true q10; obtain ⟨hy12_, hz12_⟩ := Kd.R_celln (⟨#[]⟩ : ByteArray) HO_3.out (x4_1 : Int) (ae_) (ae_); have HP12 := Kd.R_putg HO_3.out (x4_1 : Int) t552) | ((with_reducible refine gate_store (t := 9) (p := 23) rfl ?_); (try (rw [drewN_self w11]; generalize hq_ : World.drewN w11 _ = w11; have n0_ := Aside0.mk (Kd.R_at hq_ HO_3.out); have n1_ := Aside0.mk (below_at hq_ HB.out); clear hq_ HO_3 HB; have HO_3 := n0_; have HB := n1_; clear n0_ n1_; (try (try (obtain ⟨hx10_0, hf10_0⟩ := Kd.R_celln (⟨#[]⟩ : ByteArray) HO_3.out (x4_1 : Int) (by first | exact p10 | exact of_eq_true p10) (by first | exact q10 | exact of_eq_true q10)))); (try (obtain ⟨hy12_, hz12_⟩ := Kd.R_celln (⟨#[]⟩ : ByteArray) HO_3.out (x4_1 : Int) (ae_) (ae_))); (try (have HP12 := Kd.R_putg HO_3.out (x4_1 : Int) t552)))); refine store_event (t := 9) (p := 23) (v := ?vo_w13) (w1 := (w11.setCell ⟨go10, (x4_1 : Int).toNat, none⟩ (.string t552))) ?hg ?ho ?hn ?hr ?_; (case ho => rfl); (case hg => rfl); (case hn => rfl); (case hr => exact gr_); intro w13 hw; have hg : w11.grownBy w13 (some go10) := (by rw [hw]; exact HP12.2); have hp_ : Kd.R Kd.string 9 w13 w.heap.size (fun _ => True) (.slice (some ⟨go10, 0, none⟩) x3_1.length co10) y553 := (by rw [hw, Ny553.out]; exact HP12.1); clear HP12; replace HB := Aside0.mk ((by rw [hw]; exact below_set (HB.out) GB10.out : Below w.heap.size w w13)); replace HO_3 := Aside0.mk (hp_); clear hg hw hp_)); try go_wp2_with (first | (go_at_call 54; (with_reducible refine (palaverref02_Sum.calls k1 (rdOf ByteArray.empty l0 x4_1) t552 _ A8.out).mono ?_); rintro e w11 ⟨rfl, hb⟩; replace HB := Aside0.mk (below_step bl_ hb); replace HO_3 := Aside0.mk (Kd.R_below (mv_ HO_3.out) hb); (try clear hb); (try clear hb2); (try clear hk); (try clear hi); have p10 : 0 ≤ (x4_1 : Int) := ae_; have q10 : (x4_1 : Int) < ((x3_1.length : Int) : Int) := ae_; obtain ⟨go10, co10, eo10, gb10, gl10, cl10, HG10⟩ := Kd.R_form HO_3.out (by omega); (first | cases eo10 | (injection eo10 with ea_ en_ ec_; (first | subst ea_ | (injection ea_ with ea_; subst ea_)); subst ec_; clear en_)); have GB10 := Aside0.mk gb10; have GG10 := Aside0.mk HG10; clear gb10 gl10 HG10; obtain ⟨hx10_0, hf10_0⟩ := Kd.R_celln (⟨#[]⟩ : ByteArray) HO_3.out (x4_1 : Int) p10 q10; replace p10 := eq_true p10; replace q10 := eq_true q10; obtain ⟨hy12_, hz12_⟩ := Kd.R_celln (⟨#[]⟩ : ByteArray) HO_3.out (x4_1 : Int) (ae_) (ae_); have HP12 := Kd.R_putg HO_3.out (x4_1 : Int) t552) | ((with_reducible refine gate_store (t := 9) (p := 23) rfl ?_); (try (rw [drewN_self w11]; generalize hq_ : World.drewN w11 _ = w11; have n0_ := Aside0.mk (Kd.R_at hq_ HO_3.out); have n1_ := Aside0.mk (below_at hq_ HB.out); clear hq_ HO_3 HB; have HO_3 := n0_; have HB := n1_; clear n0_ n1_; (try (try (obtain ⟨hx10_0, hf10_0⟩ := Kd.R_celln (⟨#[]⟩ : ByteArray) HO_3.out (x4_1 : Int) (by first | exact p10 | exact of_eq_true p10) (by first | exact q10 | exact of_eq_true q10)))); (try (obtain ⟨hy12_, hz12_⟩ := Kd.R_celln (⟨#[]⟩ : ByteArray) HO_3.out (x4_1 : Int) (ae_) (ae_))); (try (have HP12 := Kd.R_putg HO_3.out (x4_1 : Int) t552)))); refine store_event (t := 9) (p := 23) (v := ?vo_w13) (w1 := (w11.setCell ⟨go10, (x4_1 : Int).toNat, none⟩ (.string t552))) ?hg ?ho ?hn ?hr ?_; (case ho => rfl); (case hg => rfl); (case hn => rfl); (case hr => exact gr_); intro w13 hw; have hg : w11.grownBy w13 (some go10) := (by rw [hw]; exact HP12.2); have hp_ : Kd.R Kd.string 9 w13 w.heap.size (fun _ => True) (.slice (some ⟨go10, 0, none⟩) x3_1.length co10) y553 := (by rw [hw, Ny553.out]; exact HP12.1); clear HP12; replace HB := Aside0.mk ((by rw [hw]; exact below_set (HB.out) GB10.out : Below w.heap.size w w13)); replace HO_3 := Aside0.mk (hp_); clear hg hw hp_)))
    go_roundg k1
    case measure => have := HK1.out; omega
    case rel => exact ⟨(y553), (wrap64 (x4_1 + 1)), vq_, H', ⟨by have := HK1.out; omega⟩, ⟨mv_ HO_3.out⟩, ⟨bl_⟩⟩
   rw [if_neg c6] at H
   have c6b0 : decide (x4_1 < (l0.length : Int)) = false := decide_eq_false c6
   clear c6
   have H' := Aside0.mk H
   clear H
   go_wp2
   repeat (go_quiet (fail); try go_wp2)
   go_loopg [5] k1 (fun kq v5 w' => ∃ (x5_2 : Int), v5 = .int .i64 x5_2 ∧ Aside0 (palaverref05_Clash.l1 kq l0 x3_1 x5_2 = some r) ∧ Aside0 (kq ≤ k1) ∧ Aside0 (Kd.R Kd.string 9 w' w.heap.size (fun _ => True) v549 x3_1) ∧ Aside0 (Below w.heap.size w w'))
   case atStart => exact ⟨(0), vq_, H', ⟨Nat.le_refl _⟩, ⟨mv_ HO_3.out⟩, ⟨bl_⟩⟩
   case round =>
    clear H'
    (try clear c1); (try clear p1); (try clear q1); (try clear hx1); (try clear hf1); (try clear c2); (try clear c2b0); (try clear c2b1); (try clear p2); (try clear c3); (try clear c3b0); (try clear c3b1); (try clear p5); (try clear q5); (try clear hx5); (try clear c6); (try clear c6b0); (try clear p6); (try clear c7); (try clear c7b0); (try clear c9); (try clear c9b0); (try clear p10); (try clear q10); (try clear hx10); (try clear hf10); (try clear hx10_0); (try clear hx551_0); (try clear p10); (try clear p2); (try clear p551); (try clear q10); (try clear q551)
    obtain ⟨x5_2, rfl, HA, HK2, HO_3, HB⟩ := hrel
    cases gk with
    | zero => exact absurd HA.out (by simp [palaverref05_Clash.l1])
    | succ k2 =>
     have H := HA.out
     clear HA
     simp only [palaverref05_Clash.l1] at H
     by_cases c14 : x5_2 < (l0.length : Int)
     ·rw [if_pos c14] at H
      have c14b0 : decide (x5_2 < (l0.length : Int)) = true := decide_eq_true c14
      clear c14
      have H' := Aside0.mk H
      clear H
      go_wp2
      repeat (go_quiet (fail); try go_wp2)
      go_loopg [6] k2 (fun kq v6 w' => ∃ (x6_3 : Int), v6 = .int .i64 x6_3 ∧ Aside0 (palaverref05_Clash.l2 kq l0 x3_1 x5_2 x6_3 = some r) ∧ Aside0 (kq ≤ k2) ∧ Aside0 (Kd.R Kd.string 9 w' w.heap.size (fun _ => True) v549 x3_1) ∧ Aside0 (Below w.heap.size w w'))
      case atStart => exact ⟨(0), vq_, H', ⟨Nat.le_refl _⟩, ⟨mv_ HO_3.out⟩, ⟨bl_⟩⟩
      case round =>
       clear H'
       (try clear c1); (try clear p1); (try clear q1); (try clear hx1); (try clear hf1); (try clear c2); (try clear c2b0); (try clear c2b1); (try clear p2); (try clear c3); (try clear c3b0); (try clear c3b1); (try clear p5); (try clear q5); (try clear hx5); (try clear c6); (try clear c6b0); (try clear p6); (try clear c7); (try clear c7b0); (try clear c9); (try clear c9b0); (try clear p10); (try clear q10); (try clear hx10); (try clear hf10); (try clear c14); (try clear c14b0); (try clear hx10_0); (try clear hx551_0); (try clear p1); (try clear p10); (try clear p2); (try clear p5); (try clear p551); (try clear p6); (try clear q1); (try clear q10); (try clear q5); (try clear q551)
       obtain ⟨x6_3, rfl, HA, HK3, HO_3, HB⟩ := hrel
       cases gk with
       | zero => exact absurd HA.out (by simp [palaverref05_Clash.l2])
       | succ k3 =>
        have H := HA.out
        clear HA
        simp only [palaverref05_Clash.l2] at H
        by_cases c15 : x6_3 < x5_2
        ·rw [if_pos c15] at H
         have c15b0 : decide (x6_3 < x5_2) = true := decide_eq_true c15
         clear c15
         revert H; refine nd_ fun c16 c16b0 => nd_ fun c17 c17b0 => nd_ fun c18 c18b0 => nd_ fun c19 c19b0 H => ?_
         clear c16 c17 c18 c19
         by_cases c20 : (rdOf ByteArray.empty x3_1 x5_2).toList = (rdOf ByteArray.empty x3_1 x6_3).toList
         ·rw [if_pos c20] at H
          have c20b0 : ((rdOf ByteArray.empty x3_1 x5_2).toList == (rdOf ByteArray.empty x3_1 x6_3).toList) = true := beq_iff_eq.mpr c20
          have c20b1 : ((rdOf ByteArray.empty x3_1 x5_2).toList != (rdOf ByteArray.empty x3_1 x6_3).toList) = false := bne_eq_false_iff_eq.mpr c20
          clear c20
          revert H; refine nd_ fun c21 c21b0 => nd_ fun c22 c22b0 H => ?_
          clear c21 c22
          by_cases c23 : (rdOf ByteArray.empty l0 x5_2).toList = (rdOf ByteArray.empty l0 x6_3).toList
          ·rw [if_pos c23] at H
           have c23b0 : ((rdOf ByteArray.empty l0 x5_2).toList == (rdOf ByteArray.empty l0 x6_3).toList) = true := beq_iff_eq.mpr c23
           have c23b1 : ((rdOf ByteArray.empty l0 x5_2).toList != (rdOf ByteArray.empty l0 x6_3).toList) = false := bne_eq_false_iff_eq.mpr c23
           clear c23
           have H' := Aside0.mk H
           clear H
           obtain ⟨Ao24, co24, eo24⟩ := Kd.R_slice HO_3.out
           subst eo24
           have p554 : 0 ≤ (x5_2 : Int) := ae_
           have q554 : x5_2 < (x3_1.length : Int) := ae_
           obtain ⟨ad554, e554, hx554_0⟩ := Kd.at_string (Kd.R_reads' HO_3.out).2.2 x5_2 p554 q554
           cases e554
           replace p554 := eq_true p554
           replace q554 := eq_true q554
           have p555 : 0 ≤ (x6_3 : Int) := ae_
           have q555 : x6_3 < (x3_1.length : Int) := ae_
           obtain ⟨ad555, e555, hx555_0⟩ := Kd.at_string (Kd.R_reads' HO_3.out).2.2 x6_3 p555 q555
           obtain rfl : ad554 = ad555 := (by injection e555)
           replace p555 := eq_true p555
           replace q555 := eq_true q555
           have p556 : 0 ≤ (x5_2 : Int) := ae_
           have q556 : x5_2 < (l0.length : Int) := ae_
           obtain ⟨ad556, e556, hx556_0⟩ := Kd.at_string HR0.out x5_2 p556 q556
           cases e556
           replace hx556_0 := (HB.out.cell (World.block_lt_of_cell? w _ hx556_0)).trans hx556_0
           replace p556 := eq_true p556
           replace q556 := eq_true q556
           have p557 : 0 ≤ (x6_3 : Int) := ae_
           have q557 : x6_3 < (l0.length : Int) := ae_
           obtain ⟨ad557, e557, hx557_0⟩ := Kd.at_string HR0.out x6_3 p557 q557
           obtain rfl : ad556 = ad557 := (by injection e557)
           replace hx557_0 := (HB.out.cell (World.block_lt_of_cell? w _ hx557_0)).trans hx557_0
           replace p557 := eq_true p557
           replace q557 := eq_true q557
           go_wp2
           repeat (go_quiet (fail); try go_wp2)
           go_roundg k3
           case measure => have := HK1.out; have := HK2.out; have := HK3.out; omega
           case rel => exact ⟨(wrap64 (x6_3 + 1)), vq_, H', ⟨by have := HK1.out; have := HK2.out; have := HK3.out; omega⟩, ⟨mv_ HO_3.out⟩, ⟨bl_⟩⟩
          rw [if_neg c23] at H
          have c23b0 : ((rdOf ByteArray.empty l0 x5_2).toList == (rdOf ByteArray.empty l0 x6_3).toList) = false := beq_eq_false_iff_ne.mpr c23
          have c23b1 : ((rdOf ByteArray.empty l0 x5_2).toList != (rdOf ByteArray.empty l0 x6_3).toList) = true := bne_iff_ne.mpr c23
          obtain rfl := Option.some.inj H
          obtain ⟨Ao25, co25, eo25⟩ := Kd.R_slice HO_3.out
          subst eo25
          have p554 : 0 ≤ (x5_2 : Int) := ae_
          have q554 : x5_2 < (x3_1.length : Int) := ae_
          obtain ⟨ad554, e554, hx554_0⟩ := Kd.at_string (Kd.R_reads' HO_3.out).2.2 x5_2 p554 q554
          cases e554
          replace p554 := eq_true p554
          replace q554 := eq_true q554
          have p555 : 0 ≤ (x6_3 : Int) := ae_
          have q555 : x6_3 < (x3_1.length : Int) := ae_
          obtain ⟨ad555, e555, hx555_0⟩ := Kd.at_string (Kd.R_reads' HO_3.out).2.2 x6_3 p555 q555
          obtain rfl : ad554 = ad555 := (by injection e555)
          replace p555 := eq_true p555
          replace q555 := eq_true q555
          have p556 : 0 ≤ (x5_2 : Int) := ae_
          have q556 : x5_2 < (l0.length : Int) := ae_
          obtain ⟨ad556, e556, hx556_0⟩ := Kd.at_string HR0.out x5_2 p556 q556
          cases e556
          replace hx556_0 := (HB.out.cell (World.block_lt_of_cell? w _ hx556_0)).trans hx556_0
          replace p556 := eq_true p556
          replace q556 := eq_true q556
          have p557 : 0 ≤ (x6_3 : Int) := ae_
          have q557 : x6_3 < (l0.length : Int) := ae_
          obtain ⟨ad557, e557, hx557_0⟩ := Kd.at_string HR0.out x6_3 p557 q557
          obtain rfl : ad556 = ad557 := (by injection e557)
          replace hx557_0 := (HB.out.cell (World.block_lt_of_cell? w _ hx557_0)).trans hx557_0
          replace p557 := eq_true p557
          replace q557 := eq_true q557
          go_wp2
          repeat (go_quiet (fail); try go_wp2)
          go_ret
          exact ⟨er_, bl_⟩
         rw [if_neg c20] at H
         have c20b0 : ((rdOf ByteArray.empty x3_1 x5_2).toList == (rdOf ByteArray.empty x3_1 x6_3).toList) = false := beq_eq_false_iff_ne.mpr c20
         have c20b1 : ((rdOf ByteArray.empty x3_1 x5_2).toList != (rdOf ByteArray.empty x3_1 x6_3).toList) = true := bne_iff_ne.mpr c20
         have H' := Aside0.mk H
         clear H
         obtain ⟨Ao26, co26, eo26⟩ := Kd.R_slice HO_3.out
         subst eo26
         have p554 : 0 ≤ (x5_2 : Int) := ae_
         have q554 : x5_2 < (x3_1.length : Int) := ae_
         obtain ⟨ad554, e554, hx554_0⟩ := Kd.at_string (Kd.R_reads' HO_3.out).2.2 x5_2 p554 q554
         cases e554
         replace p554 := eq_true p554
         replace q554 := eq_true q554
         have p555 : 0 ≤ (x6_3 : Int) := ae_
         have q555 : x6_3 < (x3_1.length : Int) := ae_
         obtain ⟨ad555, e555, hx555_0⟩ := Kd.at_string (Kd.R_reads' HO_3.out).2.2 x6_3 p555 q555
         obtain rfl : ad554 = ad555 := (by injection e555)
         replace p555 := eq_true p555
         replace q555 := eq_true q555
         go_wp2
         repeat (go_quiet (fail); try go_wp2)
         go_roundg k3
         case measure => have := HK1.out; have := HK2.out; have := HK3.out; omega
         case rel => exact ⟨(wrap64 (x6_3 + 1)), vq_, H', ⟨by have := HK1.out; have := HK2.out; have := HK3.out; omega⟩, ⟨mv_ HO_3.out⟩, ⟨bl_⟩⟩
        rw [if_neg c15] at H
        have c15b0 : decide (x6_3 < x5_2) = false := decide_eq_false c15
        clear c15
        have H' := Aside0.mk H
        clear H
        go_wp2
        repeat (go_quiet (fail); try go_wp2)
        go_roundg k3
        case measure => have := HK1.out; have := HK2.out; have := HK3.out; omega
        case rel => exact ⟨(wrap64 (x5_2 + 1)), vq_, H', ⟨by have := HK1.out; have := HK2.out; have := HK3.out; omega⟩, ⟨mv_ HO_3.out⟩, ⟨bl_⟩⟩
     rw [if_neg c14] at H
     have c14b0 : decide (x5_2 < (l0.length : Int)) = false := decide_eq_false c14
     clear c14
     obtain rfl := Option.some.inj H
     go_wp2
     repeat (go_quiet (fail); try go_wp2)
     go_ret
     exact ⟨er_, bl_⟩

/-! ### palaverref05_Round: function 55 (walked by hand) -/
mutual
def palaverref05_Round.l0 : Nat → List ByteArray → Int → Option (Bool)
 | 0, _, _ => none
 | k + 1, x4, x7 => if x7 < (x4.length : Int) then (if 0 ≤ x7 then (palaverref05_Round.l1 k x4 x7 (([rdOf ByteArray.empty x4 x7] : List ByteArray)) 0) else (none)) else (some false)
def palaverref05_Round.l1 : Nat → List ByteArray → Int → List ByteArray → Int → Option (Bool)
 | 0, _, _, _, _ => none
 | k + 1, x4, x7, x8, x9 => if x9 < 15 then (if 0 ≤ x9 then (if x9 < (x8.length : Int) then ((palaverref03_Step.f k x7 (rdOf ByteArray.empty x8 x9)).bind fun t583 => (palaverref05_Round.l2 k x4 x7 x8 x9 t583 0)) else (none)) else (none)) else (palaverref05_Round.l0 k x4 (wrap64 (x7 + 1)))
def palaverref05_Round.l2 : Nat → List ByteArray → Int → List ByteArray → Int → ByteArray → Int → Option (Bool)
 | 0, _, _, _, _, _, _ => none
 | k + 1, x4, x7, x8, x9, x10, x11 => if x11 ≤ x9 then (if 0 ≤ x11 then (if x11 < (x8.length : Int) then (if (rdOf ByteArray.empty x8 x11).toList = x10.toList then (some true) else (palaverref05_Round.l2 k x4 x7 x8 x9 x10 (wrap64 (x11 + 1)))) else (none)) else (none)) else (if x8.length < 8796093022208 then (palaverref05_Round.l1 k x4 x7 (x8 ++ [x10]) (wrap64 (x9 + 1))) else (none))
end
def palaverref05_Round.f (k : Nat) (a0 : ByteArray) : Option (Bool) := (palaverref05_Parts.f k a0).bind fun bt570 => (palaverref05_Round.l0 k bt570.2.1 0)
theorem palaverref05_Round.mono_l : ∀ k, (∀ y0 y1, LeO (palaverref05_Round.l0 k y0 y1) (palaverref05_Round.l0 (k + 1) y0 y1)) ∧ (∀ y0 y1 y2 y3, LeO (palaverref05_Round.l1 k y0 y1 y2 y3) (palaverref05_Round.l1 (k + 1) y0 y1 y2 y3)) ∧ (∀ y0 y1 y2 y3 y4 y5, LeO (palaverref05_Round.l2 k y0 y1 y2 y3 y4 y5) (palaverref05_Round.l2 (k + 1) y0 y1 y2 y3 y4 y5))
 | 0 => ⟨fun _ _ r h => by simp [palaverref05_Round.l0] at h, fun _ _ _ _ r h => by simp [palaverref05_Round.l1] at h, fun _ _ _ _ _ _ r h => by simp [palaverref05_Round.l2] at h⟩
 | k + 1 => by
  obtain ⟨ih0, ih1, ih2⟩ := palaverref05_Round.mono_l k
  refine ⟨?_, ?_, ?_⟩ <;> intros <;> (first | unfold palaverref05_Round.l0 | unfold palaverref05_Round.l1 | unfold palaverref05_Round.l2) <;> repeat' first
  | (with_reducible exact ih0 _ _)
  | (with_reducible exact ih1 _ _ _ _)
  | (with_reducible exact ih2 _ _ _ _ _ _)
  | (with_reducible exact palaverref03_Step.mono _ _ _)
  | (with_reducible exact palaverref05_Parts.mono _ _)
  | (with_reducible exact LeO.refl _)
  | (with_reducible exact LeO.none _)
  | (with_reducible refine LeO.ite ?_ ?_)
  | (with_reducible refine LeO.bind ?_ (fun _ => ?_))
  | exact ih0 _ _
  | exact ih1 _ _ _ _
  | exact ih2 _ _ _ _ _ _
  | exact palaverref03_Step.mono _ _ _
  | exact palaverref05_Parts.mono _ _
  | exact LeO.none _
  | refine LeO.ite ?_ ?_
  | refine LeO.bind ?_ (fun _ => ?_)
theorem palaverref05_Round.mono : ∀ a0 k, LeO (palaverref05_Round.f k a0) (palaverref05_Round.f (k + 1) a0) := by
 intro a0 k
 obtain ⟨ih0, ih1, ih2⟩ := palaverref05_Round.mono_l k
 unfold palaverref05_Round.f
 repeat' first
  | (with_reducible exact ih0 _ _)
  | (with_reducible exact ih1 _ _ _ _)
  | (with_reducible exact ih2 _ _ _ _ _ _)
  | (with_reducible exact palaverref03_Step.mono _ _ _)
  | (with_reducible exact palaverref05_Parts.mono _ _)
  | (with_reducible exact LeO.refl _)
  | (with_reducible exact LeO.none _)
  | (with_reducible refine LeO.ite ?_ ?_)
  | (with_reducible refine LeO.bind ?_ (fun _ => ?_))
  | exact ih0 _ _
  | exact ih1 _ _ _ _
  | exact ih2 _ _ _ _ _ _
  | exact palaverref03_Step.mono _ _ _
  | exact palaverref05_Parts.mono _ _
  | exact LeO.none _
  | refine LeO.ite ?_ ?_
  | refine LeO.bind ?_ (fun _ => ?_)
set_option maxHeartbeats 64000000 in
set_option maxRecDepth 100000 in
theorem palaverref05_Round.calls (k : Nat) (a0 : ByteArray) (r : Bool) (w : World) (h : palaverref05_Round.f k a0 = some r) :
 Calls Tryz.prog 55 #[.string a0] w fun e w' => e = .returned (.bool r) ∧ Below w.heap.size w w' := by
 have HB := Aside0.mk (Below.refl w.heap.size w)
 have H : ((palaverref05_Parts.f k a0).bind fun bt562 => (palaverref05_Round.l0 k bt562.2.1 0)) = some r := h
 clear h
 replace H := ob_ H
 obtain ⟨⟨t562, t563, t564, t565⟩, A20, H⟩ := H
 replace H : (palaverref05_Round.l0 k t563 0) = some r := H
 have A2 := Aside0.mk A20
 clear A20
 have H' := Aside0.mk H
 clear H
 go_enter Tryz.func55, Tryz.ntmps55
 go_wp2_with (go_at_call 12; (with_reducible refine (palaverref05_Parts.calls k a0 t562 t563 t564 t565 _ A2.out).mono ?_); rintro e w3 ⟨A1_, A2_, q1, q2, rfl, hc1, hq1, _, _, hb⟩; have HC := Aside0.mk hc1; have HQ := Aside0.mk hq1; have HB0 := Aside0.mk (below_step bl_ hb); clear hb hc1 hq1 HB; have HB := Aside0.mk (Below.refl w3.heap.size w3))
 go_loopg [7] k (fun kq v7 w' => ∃ (x7_1 : Int), v7 = .int .i64 x7_1 ∧ Aside0 (palaverref05_Round.l0 kq t563 x7_1 = some r) ∧ Aside0 (kq ≤ k) ∧ Aside0 (Below w3.heap.size w3 w'))
 case atStart => exact ⟨(0), vq_, H', ⟨Nat.le_refl _⟩, ⟨bl_⟩⟩
 case round =>
  clear H'
  (try clear c1); (try clear p2)
  obtain ⟨x7_1, rfl, HA, HK1, HB⟩ := hrel
  cases gk with
  | zero => exact absurd HA.out (by simp [palaverref05_Round.l0])
  | succ k1 =>
   have H := HA.out
   clear HA
   simp only [palaverref05_Round.l0] at H
   by_cases c4 : x7_1 < (t563.length : Int)
   ·rw [if_pos c4] at H
    have c4b0 : decide (x7_1 < (t563.length : Int)) = true := decide_eq_true c4
    clear c4
    revert H; refine nd_ fun c5 c5b0 H => ?_
    clear c5
    generalize e_ : (([rdOf ByteArray.empty t563 x7_1] : List ByteArray) : List ByteArray) = y571 at H
    have Ny571 := Aside0.mk e_.symm
    clear e_
    have H' := Aside0.mk H
    clear H
    have p570 : 0 ≤ (x7_1 : Int) := ae_
    have q570 : x7_1 < (t563.length : Int) := ae_
    obtain ⟨ad570, e570, hx570_0⟩ := Kd.at_string (Kd.C_below HC.out HB.out) x7_1 p570 q570
    cases e570
    replace p570 := eq_true p570
    replace q570 := eq_true q570
    go_wp2_with (first | ((with_reducible refine gate_dst (N := 29) rfl ?_); refine Kd.R_lit Kd.string _ 9 ?hg (N := 29) ?hd (xs := ([rdOf ByteArray.empty t563 x7_1] : List ByteArray)) (inner := [.string (rdOf ByteArray.empty t563 x7_1)]) (ok := fun _ => True) (okp := fun _ => True) ?hr ?hp (fun _ hk => hk) trivial (Below.refl _ _) (Nat.le_refl _) (by simp) ?_; (case hd => rfl); (case hg => rfl); (case hr => exact gr_); (case hp => exact (Reps.one (show Kd.M Kd.string _ _ _ (rdOf ByteArray.empty t563 x7_1) [.string (rdOf ByteArray.empty t563 x7_1)] from rfl) (Reps.none _ _))); intro v572 w7 ho8 hb hg_ hnew_; clear hg_ hnew_; (first | rw [← Ny571.out] at ho8 | (simp only [Int.reduceToNat] at ho8; rw [← Ny571.out] at ho8)); have HO573 := Aside0.mk (Kd.R_lower ho8 (below_size bl_)); replace HB := Aside0.mk (below_step bl_ hb); clear hb ho8))
    go_loopg [8, 9] k1 (fun kq v8 v9 w' => ∃ (x8_2 : List ByteArray) (x9_2 : Int), v9 = .int .i64 x9_2 ∧ Aside0 (palaverref05_Round.l1 kq t563 x7_1 x8_2 x9_2 = some r) ∧ Aside0 (kq ≤ k1) ∧ Aside0 (Kd.R Kd.string 9 w' w3.heap.size (fun _ => True) v8 x8_2) ∧ Aside0 (Below w3.heap.size w3 w'))
    case atStart => exact ⟨(y571), (0), vq_, H', ⟨Nat.le_refl _⟩, ⟨mv_ HO573.out⟩, ⟨bl_⟩⟩
    case round =>
     clear H'
     (try clear c1); (try clear p2); (try clear c4); (try clear c4b0); (try clear c5); (try clear c5b0); (try clear p5); (try clear q5); (try clear hx5); (try clear p6); (try clear hx570_0); (try clear p2); (try clear p570); (try clear q570)
     obtain ⟨x8_2, x9_2, rfl, HA, HK2, HO_8, HB⟩ := hrel
     cases gk with
     | zero => exact absurd HA.out (by simp [palaverref05_Round.l1])
     | succ k2 =>
      have H := HA.out
      clear HA
      simp only [palaverref05_Round.l1] at H
      by_cases c9 : x9_2 < 15
      ·rw [if_pos c9] at H
       have c9b0 : decide (x9_2 < 15) = true := decide_eq_true c9
       clear c9
       revert H; refine nd_ fun c10 c10b0 => nd_ fun c11 c11b0 => oa_ fun t575 A12 H => ?_
       clear c10 c11
       have H' := Aside0.mk H
       clear H
       obtain ⟨Ao13, co13, eo13⟩ := Kd.R_slice HO_8.out
       subst eo13
       have p574 : 0 ≤ (x9_2 : Int) := ae_
       have q574 : x9_2 < (x8_2.length : Int) := ae_
       obtain ⟨ad574, e574, hx574_0⟩ := Kd.at_string (Kd.R_reads' HO_8.out).2.2 x9_2 p574 q574
       cases e574
       replace p574 := eq_true p574
       replace q574 := eq_true q574
       go_wp2_with (first | ((with_reducible refine gate_callee (f := 67) rfl ?_); refine gL_ 39 Tryz.func67 #[.int .i64 x7_1, .string (rdOf ByteArray.empty x8_2 x9_2)] ?_; (with_reducible refine (palaverref03_Step.calls k2 x7_1 (rdOf ByteArray.empty x8_2 x9_2) t575 _ A12.out).mono ?_); rintro e w14 ⟨rfl, hb⟩; refine ⟨_, rfl, ?_⟩; replace HB := Aside0.mk (below_step bl_ hb); replace HO_8 := Aside0.mk (Kd.R_below (mv_ HO_8.out) hb); (try clear hb); (try clear hb2); (try clear hk); (try clear hi)))
       go_loopg [11] k2 (fun kq v11 w' => ∃ (x11_3 : Int), v11 = .int .i64 x11_3 ∧ Aside0 (palaverref05_Round.l2 kq t563 x7_1 x8_2 x9_2 t575 x11_3 = some r) ∧ Aside0 (kq ≤ k2) ∧ Aside0 (Kd.R Kd.string 9 w' w3.heap.size (fun _ => True) (.slice (some ad574) x8_2.length co13) x8_2) ∧ Aside0 (Below w3.heap.size w3 w'))
       case atStart => exact ⟨(0), vq_, H', ⟨Nat.le_refl _⟩, ⟨mv_ HO_8.out⟩, ⟨bl_⟩⟩
       case round =>
        clear H'
        (try clear c1); (try clear p2); (try clear c4); (try clear c4b0); (try clear c5); (try clear c5b0); (try clear p5); (try clear q5); (try clear hx5); (try clear c6); (try clear p6); (try clear c9); (try clear c9b0); (try clear c10); (try clear c10b0); (try clear c11); (try clear c11b0); (try clear c12); (try clear hx570_0); (try clear hx574_0); (try clear p2); (try clear p5); (try clear p570); (try clear p574); (try clear p6); (try clear q5); (try clear q570); (try clear q574)
        obtain ⟨x11_3, rfl, HA, HK3, HO_8, HB⟩ := hrel
        cases gk with
        | zero => exact absurd HA.out (by simp [palaverref05_Round.l2])
        | succ k3 =>
         have H := HA.out
         clear HA
         simp only [palaverref05_Round.l2] at H
         by_cases c15 : x11_3 ≤ x9_2
         ·rw [if_pos c15] at H
          have c15b0 : decide (x11_3 ≤ x9_2) = true := decide_eq_true c15
          clear c15
          revert H; refine nd_ fun c16 c16b0 => nd_ fun c17 c17b0 H => ?_
          clear c16 c17
          by_cases c18 : (rdOf ByteArray.empty x8_2 x11_3).toList = t575.toList
          ·rw [if_pos c18] at H
           have c18b0 : ((rdOf ByteArray.empty x8_2 x11_3).toList == t575.toList) = true := beq_iff_eq.mpr c18
           have c18b1 : ((rdOf ByteArray.empty x8_2 x11_3).toList != t575.toList) = false := bne_eq_false_iff_eq.mpr c18
           clear c18
           obtain rfl := Option.some.inj H
           have p576 : 0 ≤ (x11_3 : Int) := ae_
           have q576 : x11_3 < (x8_2.length : Int) := ae_
           obtain ⟨ad576, e576, hx576_0⟩ := Kd.at_string (Kd.R_reads' HO_8.out).2.2 x11_3 p576 q576
           obtain rfl : ad574 = ad576 := (by injection e576)
           replace p576 := eq_true p576
           replace q576 := eq_true q576
           go_wp2
           go_ret
           exact ⟨er_, below_step HB0.out bl_⟩
          rw [if_neg c18] at H
          have c18b0 : ((rdOf ByteArray.empty x8_2 x11_3).toList == t575.toList) = false := beq_eq_false_iff_ne.mpr c18
          have c18b1 : ((rdOf ByteArray.empty x8_2 x11_3).toList != t575.toList) = true := bne_iff_ne.mpr c18
          have H' := Aside0.mk H
          clear H
          have p576 : 0 ≤ (x11_3 : Int) := ae_
          have q576 : x11_3 < (x8_2.length : Int) := ae_
          obtain ⟨ad576, e576, hx576_0⟩ := Kd.at_string (Kd.R_reads' HO_8.out).2.2 x11_3 p576 q576
          obtain rfl : ad574 = ad576 := (by injection e576)
          replace p576 := eq_true p576
          replace q576 := eq_true q576
          go_wp2
          go_roundg k3
          case measure => have := HK1.out; have := HK2.out; have := HK3.out; omega
          case rel => exact ⟨(wrap64 (x11_3 + 1)), vq_, H', ⟨by have := HK1.out; have := HK2.out; have := HK3.out; omega⟩, ⟨mv_ HO_8.out⟩, ⟨bl_⟩⟩
         rw [if_neg c15] at H
         have c15b0 : decide (x11_3 ≤ x9_2) = false := decide_eq_false c15
         clear c15
         revert H; refine nc_ fun c19 H => ?_
         have LMc19 := Aside0.mk c19
         clear c19
         generalize e_ : (x8_2 ++ [t575] : List ByteArray) = y577 at H
         have Ny577 := Aside0.mk e_.symm
         clear e_
         have H' := Aside0.mk H
         clear H
         go_wp2_with (first | ((with_reducible refine gate_builtin (b := .append) (xs := #[.tmp 51, .tmp 53]) rfl ?_); at_builtin; refine Kd.R_append Kd.string (w0 := w3) w3.heap.size rfl (.tmp 51) (.tmp 53) 24 9 (.string ⟨#[]⟩) 16 rfl Tryz.underlying24 info9 rfl (by decide) (by omega) (.slice (some ad574) x8_2.length co13) x8_2 t575 [.string t575] (fun _ => True) (fun _ => False) rfl rfl ?aP (fun _ hk => hk.elim) ?aF ?aO ?aB ?aS ?aL ?_; (case aP => exact rfl); (case aB => exact bl_); (case aF => exact (fun _ _ => trivial)); (case aO => exact (mv_ HO_8.out)); (case aS => exact (below_size bl_)); (case aL => have := LMc19.out; omega); intro v578 w20 ho hb hg hat; rw [← Ny577.out] at ho; have HO579 := Aside0.mk (ho); replace HB := Aside0.mk (hb); clear HO_8; clear ho hb hg hat))
         go_roundg k3
         case measure => have := HK1.out; have := HK2.out; have := HK3.out; omega
         case rel => exact ⟨(y577), (wrap64 (x9_2 + 1)), vq_, H', ⟨by have := HK1.out; have := HK2.out; have := HK3.out; omega⟩, ⟨mv_ HO579.out⟩, ⟨bl_⟩⟩
      rw [if_neg c9] at H
      have c9b0 : decide (x9_2 < 15) = false := decide_eq_false c9
      clear c9
      have H' := Aside0.mk H
      clear H
      go_wp2
      go_roundg k2
      case measure => have := HK1.out; have := HK2.out; omega
      case rel => exact ⟨(wrap64 (x7_1 + 1)), vq_, H', ⟨by have := HK1.out; have := HK2.out; omega⟩, ⟨bl_⟩⟩
   rw [if_neg c4] at H
   have c4b0 : decide (x7_1 < (t563.length : Int)) = false := decide_eq_false c4
   clear c4
   obtain rfl := Option.some.inj H
   go_wp2
   go_ret
   exact ⟨er_, below_step HB0.out bl_⟩


/-! ### palaverref05_Excused: function 21 -/
def palaverref05_Excused.f (k : Nat) (l0 : List ByteArray) (a1 : ByteArray) : Option (Bool) := (palaverref05_Clash.f k l0).bind fun t558 => (if t558 = true then (some true) else ((palaverref05_Round.f k a1).bind fun t559 => (some t559)))
theorem palaverref05_Excused.mono : ∀ a0 a1 k, LeO (palaverref05_Excused.f k a0 a1) (palaverref05_Excused.f (k + 1) a0 a1) := by
 intro a0 a1 k
 unfold palaverref05_Excused.f
 repeat' first
  | (with_reducible exact palaverref05_Clash.mono _ _)
  | (with_reducible exact palaverref05_Round.mono _ _)
  | (with_reducible exact LeO.refl _)
  | (with_reducible exact LeO.none _)
  | (with_reducible refine LeO.ite ?_ ?_)
  | (with_reducible refine LeO.bind ?_ (fun _ => ?_))
  | exact palaverref05_Clash.mono _ _
  | exact palaverref05_Round.mono _ _
  | exact LeO.none _
  | refine LeO.ite ?_ ?_
  | refine LeO.bind ?_ (fun _ => ?_)
set_option maxHeartbeats 64000000 in
set_option maxRecDepth 100000 in
theorem palaverref05_Excused.calls (k : Nat) (A0 : Option Addr) (c0 : Nat) (l0 : List ByteArray) (a1 : ByteArray) (r : Bool) (w : World) (hr0 : Kd.C Kd.string w A0 l0.length l0) (hc0 : l0.length ≤ c0) (h : palaverref05_Excused.f k l0 a1 = some r) :
 Calls Tryz.prog 21 #[.slice A0 l0.length c0, .string a1] w fun e w' => e = .returned (.bool r) ∧ Below w.heap.size w w' := by
 have HR0 := Aside0.mk hr0
 have HC0 := Aside0.mk hc0
 clear hr0 hc0
 have HB := Aside0.mk (Below.refl w.heap.size w)
 have H : ((palaverref05_Clash.f k l0).bind fun t558 => (if t558 = true then (some true) else ((palaverref05_Round.f k a1).bind fun t559 => (some t559)))) = some r := h
 clear h
 revert H; refine oa_ fun t558 A3 H => ?_
 by_cases c4 : t558 = true
 ·subst c4
  have H1 : (some true) = some r := by rw [if_pos rfl] at H; exact H
  clear H
  have H := H1
  clear H1
  obtain rfl := Option.some.inj H
  go_enter Tryz.func21, Tryz.ntmps21
  go_wp2_with (first | ((with_reducible refine gate_callee (f := 19) rfl ?_); refine gL_ 6 Tryz.func19 #[.slice A0 l0.length c0] ?_; (with_reducible refine (palaverref05_Clash.calls k _ _ l0 true _ ?side1 ?side2 A3.out).mono ?_); (case side1 => repeat (first | exact HR0.out | (with_reducible refine Kd.C_alloc ?_ _) | (with_reducible refine Kd.C_drewN ?_ _) | (with_reducible refine Kd.C_drew ?_))); (case side2 => exact HC0.out); rintro e w5 ⟨rfl, hb⟩; refine ⟨_, rfl, ?_⟩; replace HB := Aside0.mk (below_step bl_ hb); (try clear hb); (try clear hb2); (try clear hk); (try clear hi)))
  go_ret
  exact ⟨er_, bl_⟩
 replace c4 := Bool.eq_false_iff.mpr c4
 subst c4
 have H1 : ((palaverref05_Round.f k a1).bind fun t559 => (some t559)) = some r := by rw [if_neg (show ¬ (false = true) by decide)] at H; exact H
 clear H
 have H := H1
 clear H1
 revert H; refine oa_ fun t559 A6 H => ?_
 obtain rfl := Option.some.inj H
 go_enter Tryz.func21, Tryz.ntmps21
 go_wp2_with (first | ((with_reducible refine gate_callee (f := 19) rfl ?_); refine gL_ 6 Tryz.func19 #[.slice A0 l0.length c0] ?_; (with_reducible refine (palaverref05_Clash.calls k _ _ l0 false _ ?side1 ?side2 A3.out).mono ?_); (case side1 => repeat (first | exact HR0.out | (with_reducible refine Kd.C_alloc ?_ _) | (with_reducible refine Kd.C_drewN ?_ _) | (with_reducible refine Kd.C_drew ?_))); (case side2 => exact HC0.out); rintro e w7 ⟨rfl, hb⟩; refine ⟨_, rfl, ?_⟩; replace HB := Aside0.mk (below_step bl_ hb); (try clear hb); (try clear hb2); (try clear hk); (try clear hi)) | (go_at_call 55; (with_reducible refine (palaverref05_Round.calls k a1 t559 _ A6.out).mono ?_); rintro e w8 ⟨rfl, hb⟩; replace HB := Aside0.mk (below_step bl_ hb); (try clear hb); (try clear hb2); (try clear hk); (try clear hi)))
 go_ret
 exact ⟨er_, bl_⟩

-- NOT PRINTED: function 5 (palaverlaw05_KeyOther)

end Go.Proofs.YtnfbagkeenjifaaGreatDoor.PP
