-- WRITTEN BY a program of this work (wip/ownprint.py), for this seat
import Derived.Test.YtkdbobccchkdjaaDoorPPx0
import Derived.Test.YtkdbobccchkdjaaDoorPPx3
import Derived.Test.YtkdbobccchkdjaaDoorPPx6
namespace Go.Proofs.YtkdbobccchkdjaaDoor.PP
open Go.RowKit Go.Proofs.YtkdbobccchkdjaaDoorW.PrintWords Go.Proofs.YtkdbobccchkdjaaDoorW.PrintLast Go.Proofs.YtkdbobccchkdjaaDoorW.PrintMore
attribute [local go_sem] max2_int min2_int max_two min_two max_three min_three max_four min_four   -- for this text's walks alone
set_option linter.unusedVariables false
set_option linter.unusedSimpArgs false

/-! ### palaverlaw03_WotsChains: function 5 -/
mutual
def palaverlaw03_WotsChains.j0 : Nat → Int → ByteArray → Int → Int → ByteArray → Bool → Bool → Option (Bool)
 | 0, _, _, _, _, _, _, _ => none
 | k + 1, x0, x1, x2, x3, x9, x10, x36 => if x36 = true then (some false) else (if x10 = true then ((palaverref03_Secret.f k x1 x3 x0).bind fun t352 => (if x9.toList = t352.toList then (palaverlaw03_WotsChains.j1 k x0 x1 x2 false) else (palaverlaw03_WotsChains.j1 k x0 x1 x2 true))) else (palaverlaw03_WotsChains.j1 k x0 x1 x2 (x9.toList != ([] : List UInt8))))
def palaverlaw03_WotsChains.j1 : Nat → Int → ByteArray → Int → Bool → Option (Bool)
 | 0, _, _, _, _ => none
 | k + 1, x0, x1, x2, x53 => if x53 = true then (some false) else ((wots_Chain.f k x0 x1 x2).bind fun t353 => ((palaverref03_Chain.f k x0 x1 x2).bind fun t354 => (if t353.toList = t354.toList then ((palaverlaw03_awake.f k).bind fun t355 => (some t355)) else (some false))))
end
def palaverlaw03_WotsChains.f (k : Nat) (a0 : Int) (a1 : ByteArray) (a2 : Int) (a3 : Int) : Option (Bool) := (palaverlaw03_long.f a1).bind fun t348 => (if t348 = true then ((palaverlaw03_awake.f k).bind fun t349 => (some t349)) else ((wots_Secret.f k a1 a3 a0).bind fun bt350 => (if a3 ≥ 0 then (if a3 ≤ 65535 then (if a0 ≥ 0 then (palaverlaw03_WotsChains.j0 k a0 a1 a2 a3 bt350.1 bt350.2 (bt350.2 != (decide (a0 ≤ 66)))) else (palaverlaw03_WotsChains.j0 k a0 a1 a2 a3 bt350.1 bt350.2 (bt350.2 != false))) else (palaverlaw03_WotsChains.j0 k a0 a1 a2 a3 bt350.1 bt350.2 (bt350.2 != false))) else (palaverlaw03_WotsChains.j0 k a0 a1 a2 a3 bt350.1 bt350.2 (bt350.2 != false)))))
theorem palaverlaw03_WotsChains.mono_l : ∀ k, (∀ y0 y1 y2 y3 y4 y5 y6, LeO (palaverlaw03_WotsChains.j0 k y0 y1 y2 y3 y4 y5 y6) (palaverlaw03_WotsChains.j0 (k + 1) y0 y1 y2 y3 y4 y5 y6)) ∧ (∀ y0 y1 y2 y3, LeO (palaverlaw03_WotsChains.j1 k y0 y1 y2 y3) (palaverlaw03_WotsChains.j1 (k + 1) y0 y1 y2 y3))
 | 0 => ⟨fun _ _ _ _ _ _ _ r h => by simp [palaverlaw03_WotsChains.j0] at h, fun _ _ _ _ r h => by simp [palaverlaw03_WotsChains.j1] at h⟩
 | k + 1 => by
  obtain ⟨ih0, ih1⟩ := palaverlaw03_WotsChains.mono_l k
  refine ⟨?_, ?_⟩
  ·intro y0 y1 y2 y3 y4 y5 y6
   unfold palaverlaw03_WotsChains.j0
   repeat' first
   | (with_reducible exact ih0 _ _ _ _ _ _ _)
   | (with_reducible exact ih1 _ _ _ _)
   | (with_reducible exact palaverlaw03_awake.mono _)
   | (with_reducible exact palaverref03_Chain.mono _ _ _ _)
   | (with_reducible exact palaverref03_Secret.mono _ _ _ _)
   | (with_reducible exact wots_Chain.mono _ _ _ _)
   | (with_reducible exact wots_Secret.mono _ _ _ _)
   | (with_reducible exact LeO.refl _)
   | (with_reducible exact LeO.none _)
   | (with_reducible refine LeO.ite ?_ ?_)
   | (with_reducible refine LeO.bind ?_ (fun _ => ?_))
   | exact ih0 _ _ _ _ _ _ _
   | exact ih1 _ _ _ _
   | exact palaverlaw03_awake.mono _
   | exact palaverref03_Chain.mono _ _ _ _
   | exact palaverref03_Secret.mono _ _ _ _
   | exact wots_Chain.mono _ _ _ _
   | exact wots_Secret.mono _ _ _ _
   | exact LeO.none _
   | refine LeO.ite ?_ ?_
   | refine LeO.bind ?_ (fun _ => ?_)
  ·intro y0 y1 y2 y3
   unfold palaverlaw03_WotsChains.j1
   repeat' first
   | (with_reducible exact ih0 _ _ _ _ _ _ _)
   | (with_reducible exact ih1 _ _ _ _)
   | (with_reducible exact palaverlaw03_awake.mono _)
   | (with_reducible exact palaverref03_Chain.mono _ _ _ _)
   | (with_reducible exact palaverref03_Secret.mono _ _ _ _)
   | (with_reducible exact wots_Chain.mono _ _ _ _)
   | (with_reducible exact wots_Secret.mono _ _ _ _)
   | (with_reducible exact LeO.refl _)
   | (with_reducible exact LeO.none _)
   | (with_reducible refine LeO.ite ?_ ?_)
   | (with_reducible refine LeO.bind ?_ (fun _ => ?_))
   | exact ih0 _ _ _ _ _ _ _
   | exact ih1 _ _ _ _
   | exact palaverlaw03_awake.mono _
   | exact palaverref03_Chain.mono _ _ _ _
   | exact palaverref03_Secret.mono _ _ _ _
   | exact wots_Chain.mono _ _ _ _
   | exact wots_Secret.mono _ _ _ _
   | exact LeO.none _
   | refine LeO.ite ?_ ?_
   | refine LeO.bind ?_ (fun _ => ?_)
theorem palaverlaw03_WotsChains.mono : ∀ a0 a1 a2 a3 k, LeO (palaverlaw03_WotsChains.f k a0 a1 a2 a3) (palaverlaw03_WotsChains.f (k + 1) a0 a1 a2 a3) := by
 intro a0 a1 a2 a3 k
 obtain ⟨ih0, ih1⟩ := palaverlaw03_WotsChains.mono_l k
 unfold palaverlaw03_WotsChains.f
 repeat' first
  | (with_reducible exact ih0 _ _ _ _ _ _ _)
  | (with_reducible exact ih1 _ _ _ _)
  | (with_reducible exact palaverlaw03_awake.mono _)
  | (with_reducible exact palaverref03_Chain.mono _ _ _ _)
  | (with_reducible exact palaverref03_Secret.mono _ _ _ _)
  | (with_reducible exact wots_Chain.mono _ _ _ _)
  | (with_reducible exact wots_Secret.mono _ _ _ _)
  | (with_reducible exact LeO.refl _)
  | (with_reducible exact LeO.none _)
  | (with_reducible refine LeO.ite ?_ ?_)
  | (with_reducible refine LeO.bind ?_ (fun _ => ?_))
  | exact ih0 _ _ _ _ _ _ _
  | exact ih1 _ _ _ _
  | exact palaverlaw03_awake.mono _
  | exact palaverref03_Chain.mono _ _ _ _
  | exact palaverref03_Secret.mono _ _ _ _
  | exact wots_Chain.mono _ _ _ _
  | exact wots_Secret.mono _ _ _ _
  | exact LeO.none _
  | refine LeO.ite ?_ ?_
  | refine LeO.bind ?_ (fun _ => ?_)
set_option maxHeartbeats 64000000 in
set_option maxRecDepth 100000 in
theorem palaverlaw03_WotsChains.calls (k : Nat) (a0 : Int) (a1 : ByteArray) (a2 : Int) (a3 : Int) (r : Bool) (w : World) (hrG : Kd.C (Kd.int .u32) w (some ⟨0, 0, none⟩) keysL.length keysL) (h : palaverlaw03_WotsChains.f k a0 a1 a2 a3 = some r) :
 Calls Tryd.prog 5 #[.int .i64 a0, .string a1, .int .i64 a2, .int .i64 a3] w fun e w' => e = .returned (.bool r) ∧ Below w.heap.size w w' := by
 have HRG := Aside0.mk hrG
 clear hrG
 have HB := Aside0.mk (Below.refl w.heap.size w)
 have H : ((palaverlaw03_long.f a1).bind fun t348 => (if t348 = true then ((palaverlaw03_awake.f k).bind fun t349 => (some t349)) else ((wots_Secret.f k a1 a3 a0).bind fun bt350 => (if a3 ≥ 0 then (if a3 ≤ 65535 then (if a0 ≥ 0 then (palaverlaw03_WotsChains.j0 k a0 a1 a2 a3 bt350.1 bt350.2 (bt350.2 != (decide (a0 ≤ 66)))) else (palaverlaw03_WotsChains.j0 k a0 a1 a2 a3 bt350.1 bt350.2 (bt350.2 != false))) else (palaverlaw03_WotsChains.j0 k a0 a1 a2 a3 bt350.1 bt350.2 (bt350.2 != false))) else (palaverlaw03_WotsChains.j0 k a0 a1 a2 a3 bt350.1 bt350.2 (bt350.2 != false)))))) = some r := h
 clear h
 replace H := Option.bind_eq_some_iff.mp H
 obtain ⟨t348, A50, H⟩ := H
 replace H : (if t348 = true then ((palaverlaw03_awake.f k).bind fun t349 => (some t349)) else ((wots_Secret.f k a1 a3 a0).bind fun bt350 => (if a3 ≥ 0 then (if a3 ≤ 65535 then (if a0 ≥ 0 then (palaverlaw03_WotsChains.j0 k a0 a1 a2 a3 bt350.1 bt350.2 (bt350.2 != (decide (a0 ≤ 66)))) else (palaverlaw03_WotsChains.j0 k a0 a1 a2 a3 bt350.1 bt350.2 (bt350.2 != false))) else (palaverlaw03_WotsChains.j0 k a0 a1 a2 a3 bt350.1 bt350.2 (bt350.2 != false))) else (palaverlaw03_WotsChains.j0 k a0 a1 a2 a3 bt350.1 bt350.2 (bt350.2 != false))))) = some r := H
 have A5 := Aside0.mk A50
 clear A50
 by_cases c6 : t348 = true
 ·subst c6
  have H1 : ((palaverlaw03_awake.f k).bind fun t349 => (some t349)) = some r := by rw [if_pos rfl] at H; exact H
  clear H
  have H := H1
  clear H1
  replace H := Option.bind_eq_some_iff.mp H
  obtain ⟨t349, A70, H⟩ := H
  replace H : (some t349) = some r := H
  have A7 := Aside0.mk A70
  clear A70
  obtain rfl := Option.some.inj H
  go_enter Tryd.func5, Tryd.ntmps5
  go_wp2_with (first | ((with_reducible refine gate_callee (f := 16) rfl ?_); refine goesL_ (some 12) rfl rfl Tryd.func16 (by kernel_rfl) rfl #[.string a1] rfl (by (try simp only [List.map_toArray, List.map_cons, List.map_nil]); first | done | rfl | (simp only [List.length_drop, List.length_take]; rfl)) ?_; (with_reducible refine (palaverlaw03_long.calls a1 true _ A5.out).mono ?_); rintro e w' ⟨rfl, ⟨nd, rfl⟩⟩; refine ⟨_, rfl, ?_⟩) | ((with_reducible refine gate_callee (f := 12) rfl ?_); refine goesL_ (some 13) rfl rfl Tryd.func12 (by kernel_rfl) rfl #[] rfl (by (try simp only [List.map_toArray, List.map_cons, List.map_nil]); first | done | rfl | (simp only [List.length_drop, List.length_take]; rfl)) ?_; (with_reducible refine (palaverlaw03_awake.calls k  t349 _ ?side1 A7.out).mono ?_); (case side1 => repeat (first | exact HRG.out | (with_reducible refine Kd.C_alloc ?_ _) | (with_reducible refine Kd.C_drewN ?_ _) | (with_reducible refine Kd.C_drew ?_))); rintro e w8 ⟨rfl, hb⟩; refine ⟨_, rfl, ?_⟩; have n0_ := Aside0.mk (below_step (by repeat (first | (with_reducible first | exact HB.out | apply below_alloc | apply pw_below_drewN | apply below_drew1) | exact HB.out)) hb); clear HB; have HB := n0_; clear n0_; (try clear hb); (try clear hb2); (try clear hk); (try clear hi)))
  go_ret
  exact ⟨by first | rfl | (simp [errW_none, errW_some] <;> rfl) | (simp [*, errW_none, errW_some] <;> rfl), by repeat (first | (with_reducible first | exact HB.out | apply below_alloc | apply pw_below_drewN | apply below_drew1) | exact HB.out)⟩
 ·replace c6 := Bool.eq_false_iff.mpr c6
  subst c6
  have H1 : ((wots_Secret.f k a1 a3 a0).bind fun bt350 => (if a3 ≥ 0 then (if a3 ≤ 65535 then (if a0 ≥ 0 then (palaverlaw03_WotsChains.j0 k a0 a1 a2 a3 bt350.1 bt350.2 (bt350.2 != (decide (a0 ≤ 66)))) else (palaverlaw03_WotsChains.j0 k a0 a1 a2 a3 bt350.1 bt350.2 (bt350.2 != false))) else (palaverlaw03_WotsChains.j0 k a0 a1 a2 a3 bt350.1 bt350.2 (bt350.2 != false))) else (palaverlaw03_WotsChains.j0 k a0 a1 a2 a3 bt350.1 bt350.2 (bt350.2 != false)))) = some r := by rw [if_neg (show ¬ (false = true) by decide)] at H; exact H
  clear H
  have H := H1
  clear H1
  replace H := Option.bind_eq_some_iff.mp H
  obtain ⟨⟨t350, t351⟩, A90, H⟩ := H
  replace H : (if a3 ≥ 0 then (if a3 ≤ 65535 then (if a0 ≥ 0 then (palaverlaw03_WotsChains.j0 k a0 a1 a2 a3 t350 t351 (t351 != (decide (a0 ≤ 66)))) else (palaverlaw03_WotsChains.j0 k a0 a1 a2 a3 t350 t351 (t351 != false))) else (palaverlaw03_WotsChains.j0 k a0 a1 a2 a3 t350 t351 (t351 != false))) else (palaverlaw03_WotsChains.j0 k a0 a1 a2 a3 t350 t351 (t351 != false))) = some r := H
  have A9 := Aside0.mk A90
  clear A90
  have HC10 := Aside0.mk H
  clear H
  go_enter Tryd.func5, Tryd.ntmps5
  go_upto_region 4 with (first | ((with_reducible refine gate_callee (f := 16) rfl ?_); refine goesL_ (some 12) rfl rfl Tryd.func16 (by kernel_rfl) rfl #[.string a1] rfl (by (try simp only [List.map_toArray, List.map_cons, List.map_nil]); first | done | rfl | (simp only [List.length_drop, List.length_take]; rfl)) ?_; (with_reducible refine (palaverlaw03_long.calls a1 false _ A5.out).mono ?_); rintro e w' ⟨rfl, ⟨nd, rfl⟩⟩; refine ⟨_, rfl, ?_⟩) | ((with_reducible refine gate_callee (f := 17) rfl ?_); refine goesL_ (some 18) rfl rfl Tryd.func17 (by kernel_rfl) rfl #[.string a1, .int .i64 a3, .int .i64 a0] rfl (by (try simp only [List.map_toArray, List.map_cons, List.map_nil]); first | done | rfl | (simp only [List.length_drop, List.length_take]; rfl)) ?_; (with_reducible refine (wots_Secret.calls k a1 a3 a0 t350 t351 _ ?side1 A9.out).mono ?_); (case side1 => repeat (first | exact HRG.out | (with_reducible refine Kd.C_alloc ?_ _) | (with_reducible refine Kd.C_drewN ?_ _) | (with_reducible refine Kd.C_drew ?_))); rintro e w11 ⟨rfl, hb⟩; refine ⟨_, rfl, ?_⟩; have n0_ := Aside0.mk (below_step (by repeat (first | (with_reducible first | exact HB.out | apply below_alloc | apply pw_below_drewN | apply below_drew1) | exact HB.out)) hb); clear HB; have HB := n0_; clear n0_; (try clear hb); (try clear hb2); (try clear hk); (try clear hi)))
  (try simp only [Act.put, List.setIfInBounds_toArray, List.set_cons_zero, List.set_cons_succ])
  go_cut [36] (fun v36 wc => ∃ (kq : Nat) (x36_9 : Bool), v36 = .bool x36_9 ∧ Aside0 (palaverlaw03_WotsChains.j0 kq a0 a1 a2 a3 t350 t351 x36_9 = some r) ∧ Aside0 (kq ≤ k) ∧ Aside0 (Below w.heap.size w wc))
  case first =>
   have H := HC10.out
   clear HC10
   by_cases c12 : a3 ≥ 0
   ·rw [if_pos c12] at H
    have c12b0 : decide (0 ≤ a3) = true := decide_eq_true c12
    clear c12
    (first | rw [c12b0] | (simp only [i64_w, i32_w]; rw [c12b0]) | skip)
    by_cases c13 : a3 ≤ 65535
    ·rw [if_pos c13] at H
     have c13b0 : decide (a3 ≤ 65535) = true := decide_eq_true c13
     clear c13
     by_cases c14 : a0 ≥ 0
     ·rw [if_pos c14] at H
      have c14b0 : decide (0 ≤ a0) = true := decide_eq_true c14
      clear c14
      have H' := Aside0.mk H
      clear H
      go_wp2
      go_meet
      case rel => exact ⟨_, ((t351 != (decide (a0 ≤ 66)))), (by first | rfl | (simp; done) | (simp [*]; done) | exact congrArg Value.bool (nonempty_l _) | (refine congrArg (Value.int _) ?_; first | omega | (unfold Go.RowKit.wrap64; omega))), H', ⟨by first | omega | exact Nat.le_refl _⟩, ⟨by repeat (first | (with_reducible first | exact HB.out | apply below_alloc | apply pw_below_drewN | apply below_drew1) | exact HB.out)⟩⟩
     ·rw [if_neg c14] at H
      have c14b0 : decide (0 ≤ a0) = false := decide_eq_false c14
      clear c14
      have H' := Aside0.mk H
      clear H
      go_wp2
      go_meet
      case rel => exact ⟨_, ((t351 != false)), (by first | rfl | (simp; done) | (simp [*]; done) | exact congrArg Value.bool (nonempty_l _) | (refine congrArg (Value.int _) ?_; first | omega | (unfold Go.RowKit.wrap64; omega))), H', ⟨by first | omega | exact Nat.le_refl _⟩, ⟨by repeat (first | (with_reducible first | exact HB.out | apply below_alloc | apply pw_below_drewN | apply below_drew1) | exact HB.out)⟩⟩
    ·rw [if_neg c13] at H
     have c13b0 : decide (a3 ≤ 65535) = false := decide_eq_false c13
     clear c13
     have H' := Aside0.mk H
     clear H
     go_wp2
     go_meet
     case rel => exact ⟨_, ((t351 != false)), (by first | rfl | (simp; done) | (simp [*]; done) | exact congrArg Value.bool (nonempty_l _) | (refine congrArg (Value.int _) ?_; first | omega | (unfold Go.RowKit.wrap64; omega))), H', ⟨by first | omega | exact Nat.le_refl _⟩, ⟨by repeat (first | (with_reducible first | exact HB.out | apply below_alloc | apply pw_below_drewN | apply below_drew1) | exact HB.out)⟩⟩
   ·rw [if_neg c12] at H
    have c12b0 : decide (0 ≤ a3) = false := decide_eq_false c12
    clear c12
    (first | rw [c12b0] | (simp only [i64_w, i32_w]; rw [c12b0]) | skip)
    have H' := Aside0.mk H
    clear H
    go_wp2
    go_meet
    case rel => exact ⟨_, ((t351 != false)), (by first | rfl | (simp; done) | (simp [*]; done) | exact congrArg Value.bool (nonempty_l _) | (refine congrArg (Value.int _) ?_; first | omega | (unfold Go.RowKit.wrap64; omega))), H', ⟨by first | omega | exact Nat.le_refl _⟩, ⟨by repeat (first | (with_reducible first | exact HB.out | apply below_alloc | apply pw_below_drewN | apply below_drew1) | exact HB.out)⟩⟩
  case rest =>
   clear HC10
   (try clear c1); (try clear p2); (try clear c5); (try clear c6); (try clear p6); (try clear c12); (try clear c12b0); (try clear c13); (try clear c13b0); (try clear c14); (try clear c14b0)
   obtain ⟨kq, x36_9, rfl, HA, HJ9, HB⟩ := hcut
   cases kq with
   | zero => exact absurd HA.out (by simp [palaverlaw03_WotsChains.j0])
   | succ kj9 =>
    have H := HA.out
    clear HA
    simp only [palaverlaw03_WotsChains.j0] at H
    by_cases c15 : x36_9 = true
    ·subst c15
     have H1 : (some false) = some r := by rw [if_pos rfl] at H; exact H
     clear H
     have H := H1
     clear H1
     obtain rfl := Option.some.inj H
     go_wp2
     go_ret
     exact ⟨by first | rfl | (simp [errW_none, errW_some] <;> rfl) | (simp [*, errW_none, errW_some] <;> rfl), by repeat (first | (with_reducible first | exact HB.out | apply below_alloc | apply pw_below_drewN | apply below_drew1) | exact HB.out)⟩
    ·replace c15 := Bool.eq_false_iff.mpr c15
     subst c15
     have H1 : (if t351 = true then ((palaverref03_Secret.f kj9 a1 a3 a0).bind fun t352 => (if t350.toList = t352.toList then (palaverlaw03_WotsChains.j1 kj9 a0 a1 a2 false) else (palaverlaw03_WotsChains.j1 kj9 a0 a1 a2 true))) else (palaverlaw03_WotsChains.j1 kj9 a0 a1 a2 (t350.toList != ([] : List UInt8)))) = some r := by rw [if_neg (show ¬ (false = true) by decide)] at H; exact H
     clear H
     have H := H1
     clear H1
     have HC16 := Aside0.mk H
     clear H
     go_upto_region 6 with (fail)
     go_cut [53] (fun v53 wc => ∃ (kq : Nat) (x53_15 : Bool), v53 = .bool x53_15 ∧ Aside0 (palaverlaw03_WotsChains.j1 kq a0 a1 a2 x53_15 = some r) ∧ Aside0 (kq ≤ kj9) ∧ Aside0 (Below w.heap.size w wc))
     case first =>
      have H := HC16.out
      clear HC16
      by_cases c17 : t351 = true
      ·subst c17
       have H1 : ((palaverref03_Secret.f kj9 a1 a3 a0).bind fun t352 => (if t350.toList = t352.toList then (palaverlaw03_WotsChains.j1 kj9 a0 a1 a2 false) else (palaverlaw03_WotsChains.j1 kj9 a0 a1 a2 true))) = some r := by rw [if_pos rfl] at H; exact H
       clear H
       have H := H1
       clear H1
       replace H := Option.bind_eq_some_iff.mp H
       obtain ⟨t352, A180, H⟩ := H
       replace H : (if t350.toList = t352.toList then (palaverlaw03_WotsChains.j1 kj9 a0 a1 a2 false) else (palaverlaw03_WotsChains.j1 kj9 a0 a1 a2 true)) = some r := H
       have A18 := Aside0.mk A180
       clear A180
       by_cases c19 : t350.toList = t352.toList
       ·rw [if_pos c19] at H
        have c19b0 : (t350.toList == t352.toList) = true := beq_iff_eq.mpr c19
        have c19b1 : (t350.toList != t352.toList) = false := bne_eq_false_iff_eq.mpr c19
        clear c19
        (first | rw [c19b0] | (simp only [i64_w, i32_w]; rw [c19b0]) | skip)
        have H' := Aside0.mk H
        clear H
        go_wp2_with (first | (go_at_call 18; (with_reducible refine (palaverref03_Secret.calls kj9 a1 a3 a0 t352 _ A18.out).mono ?_); rintro e w20 ⟨rfl, hb⟩; have n0_ := Aside0.mk (below_step (by repeat (first | (with_reducible first | exact HB.out | apply below_alloc | apply pw_below_drewN | apply below_drew1) | exact HB.out)) hb); clear HB; have HB := n0_; clear n0_; (try clear hb); (try clear hb2); (try clear hk); (try clear hi)))
        go_meet
        case rel => exact ⟨_, (false), (by first | rfl | (simp; done) | (simp [*]; done) | exact congrArg Value.bool (nonempty_l _) | (refine congrArg (Value.int _) ?_; first | omega | (unfold Go.RowKit.wrap64; omega))), H', ⟨by have := HJ9.out; first | omega | exact Nat.le_refl _⟩, ⟨by repeat (first | (with_reducible first | exact HB.out | apply below_alloc | apply pw_below_drewN | apply below_drew1) | exact HB.out)⟩⟩
       ·rw [if_neg c19] at H
        have c19b0 : (t350.toList == t352.toList) = false := beq_eq_false_iff_ne.mpr c19
        have c19b1 : (t350.toList != t352.toList) = true := bne_iff_ne.mpr c19
        (first | rw [c19b0] | (simp only [i64_w, i32_w]; rw [c19b0]) | skip)
        have H' := Aside0.mk H
        clear H
        go_wp2_with (first | (go_at_call 18; (with_reducible refine (palaverref03_Secret.calls kj9 a1 a3 a0 t352 _ A18.out).mono ?_); rintro e w21 ⟨rfl, hb⟩; have n0_ := Aside0.mk (below_step (by repeat (first | (with_reducible first | exact HB.out | apply below_alloc | apply pw_below_drewN | apply below_drew1) | exact HB.out)) hb); clear HB; have HB := n0_; clear n0_; (try clear hb); (try clear hb2); (try clear hk); (try clear hi)))
        go_meet
        case rel => exact ⟨_, (true), (by first | rfl | (simp; done) | (simp [*]; done) | exact congrArg Value.bool (nonempty_l _) | (refine congrArg (Value.int _) ?_; first | omega | (unfold Go.RowKit.wrap64; omega))), H', ⟨by have := HJ9.out; first | omega | exact Nat.le_refl _⟩, ⟨by repeat (first | (with_reducible first | exact HB.out | apply below_alloc | apply pw_below_drewN | apply below_drew1) | exact HB.out)⟩⟩
      ·replace c17 := Bool.eq_false_iff.mpr c17
       subst c17
       have H1 : (palaverlaw03_WotsChains.j1 kj9 a0 a1 a2 (t350.toList != ([] : List UInt8))) = some r := by rw [if_neg (show ¬ (false = true) by decide)] at H; exact H
       clear H
       have H := H1
       clear H1
       have H' := Aside0.mk H
       clear H
       go_wp2
       go_meet
       case rel => exact ⟨_, ((t350.toList != ([] : List UInt8))), (by first | rfl | (simp; done) | (simp [*]; done) | exact congrArg Value.bool (nonempty_l _) | (refine congrArg (Value.int _) ?_; first | omega | (unfold Go.RowKit.wrap64; omega))), H', ⟨by have := HJ9.out; first | omega | exact Nat.le_refl _⟩, ⟨by repeat (first | (with_reducible first | exact HB.out | apply below_alloc | apply pw_below_drewN | apply below_drew1) | exact HB.out)⟩⟩
     case rest =>
      clear HC16
      (try clear c1); (try clear p2); (try clear c5); (try clear c6); (try clear p6); (try clear c12); (try clear c12b0); (try clear c13); (try clear c13b0); (try clear c14); (try clear c14b0); (try clear c15); (try clear c16); (try clear c17); (try clear c19); (try clear c19b0); (try clear c19b1); (try clear p2); (try clear p6)
      obtain ⟨kq, x53_15, rfl, HA, HJ15, HB⟩ := hcut
      cases kq with
      | zero => exact absurd HA.out (by simp [palaverlaw03_WotsChains.j1])
      | succ kj15 =>
       have H := HA.out
       clear HA
       simp only [palaverlaw03_WotsChains.j1] at H
       by_cases c22 : x53_15 = true
       ·subst c22
        have H1 : (some false) = some r := by rw [if_pos rfl] at H; exact H
        clear H
        have H := H1
        clear H1
        obtain rfl := Option.some.inj H
        go_wp2
        go_ret
        exact ⟨by first | rfl | (simp [errW_none, errW_some] <;> rfl) | (simp [*, errW_none, errW_some] <;> rfl), by repeat (first | (with_reducible first | exact HB.out | apply below_alloc | apply pw_below_drewN | apply below_drew1) | exact HB.out)⟩
       ·replace c22 := Bool.eq_false_iff.mpr c22
        subst c22
        have H1 : ((wots_Chain.f kj15 a0 a1 a2).bind fun t353 => ((palaverref03_Chain.f kj15 a0 a1 a2).bind fun t354 => (if t353.toList = t354.toList then ((palaverlaw03_awake.f kj15).bind fun t355 => (some t355)) else (some false)))) = some r := by rw [if_neg (show ¬ (false = true) by decide)] at H; exact H
        clear H
        have H := H1
        clear H1
        replace H := Option.bind_eq_some_iff.mp H
        obtain ⟨t353, A230, H⟩ := H
        replace H : ((palaverref03_Chain.f kj15 a0 a1 a2).bind fun t354 => (if t353.toList = t354.toList then ((palaverlaw03_awake.f kj15).bind fun t355 => (some t355)) else (some false))) = some r := H
        have A23 := Aside0.mk A230
        clear A230
        replace H := Option.bind_eq_some_iff.mp H
        obtain ⟨t354, A240, H⟩ := H
        replace H : (if t353.toList = t354.toList then ((palaverlaw03_awake.f kj15).bind fun t355 => (some t355)) else (some false)) = some r := H
        have A24 := Aside0.mk A240
        clear A240
        by_cases c25 : t353.toList = t354.toList
        ·rw [if_pos c25] at H
         have c25b0 : (t353.toList == t354.toList) = true := beq_iff_eq.mpr c25
         have c25b1 : (t353.toList != t354.toList) = false := bne_eq_false_iff_eq.mpr c25
         clear c25
         replace H := Option.bind_eq_some_iff.mp H
         obtain ⟨t355, A260, H⟩ := H
         replace H : (some t355) = some r := H
         have A26 := Aside0.mk A260
         clear A260
         obtain rfl := Option.some.inj H
         go_wp2_with (first | ((with_reducible refine gate_callee (f := 19) rfl ?_); refine goesL_ (some 57) rfl rfl Tryd.func19 (by kernel_rfl) rfl #[.int .i64 a0, .string a1, .int .i64 a2] rfl (by (try simp only [List.map_toArray, List.map_cons, List.map_nil]); first | done | rfl | (simp only [List.length_drop, List.length_take]; rfl)) ?_; (with_reducible refine (wots_Chain.calls kj15 a0 a1 a2 t353 _ ?side1 A23.out).mono ?_); (case side1 => repeat (first | exact (Kd.C_below HRG.out HB.out) | (with_reducible refine Kd.C_alloc ?_ _) | (with_reducible refine Kd.C_drewN ?_ _) | (with_reducible refine Kd.C_drew ?_))); rintro e w27 ⟨rfl, hb⟩; refine ⟨_, rfl, ?_⟩; have n0_ := Aside0.mk (below_step (by repeat (first | (with_reducible first | exact HB.out | apply below_alloc | apply pw_below_drewN | apply below_drew1) | exact HB.out)) hb); clear HB; have HB := n0_; clear n0_; (try clear hb); (try clear hb2); (try clear hk); (try clear hi)) | ((with_reducible refine gate_callee (f := 20) rfl ?_); refine goesL_ (some 61) rfl rfl Tryd.func20 (by kernel_rfl) rfl #[.int .i64 a0, .string a1, .int .i64 a2] rfl (by (try simp only [List.map_toArray, List.map_cons, List.map_nil]); first | done | rfl | (simp only [List.length_drop, List.length_take]; rfl)) ?_; (with_reducible refine (palaverref03_Chain.calls kj15 a0 a1 a2 t354 _ A24.out).mono ?_); rintro e w28 ⟨rfl, hb⟩; refine ⟨_, rfl, ?_⟩; have n0_ := Aside0.mk (below_step (by repeat (first | (with_reducible first | exact HB.out | apply below_alloc | apply pw_below_drewN | apply below_drew1) | exact HB.out)) hb); clear HB; have HB := n0_; clear n0_; (try clear hb); (try clear hb2); (try clear hk); (try clear hi)) | (go_at_call 12; (with_reducible refine (palaverlaw03_awake.calls kj15  t355 _ ?side1 A26.out).mono ?_); (case side1 => repeat (first | exact (Kd.C_below HRG.out HB.out) | (with_reducible refine Kd.C_alloc ?_ _) | (with_reducible refine Kd.C_drewN ?_ _) | (with_reducible refine Kd.C_drew ?_))); rintro e w29 ⟨rfl, hb⟩; have n0_ := Aside0.mk (below_step (by repeat (first | (with_reducible first | exact HB.out | apply below_alloc | apply pw_below_drewN | apply below_drew1) | exact HB.out)) hb); clear HB; have HB := n0_; clear n0_; (try clear hb); (try clear hb2); (try clear hk); (try clear hi)))
         go_ret
         exact ⟨by first | rfl | (simp [errW_none, errW_some] <;> rfl) | (simp [*, errW_none, errW_some] <;> rfl), by repeat (first | (with_reducible first | exact HB.out | apply below_alloc | apply pw_below_drewN | apply below_drew1) | exact HB.out)⟩
        ·rw [if_neg c25] at H
         have c25b0 : (t353.toList == t354.toList) = false := beq_eq_false_iff_ne.mpr c25
         have c25b1 : (t353.toList != t354.toList) = true := bne_iff_ne.mpr c25
         obtain rfl := Option.some.inj H
         go_wp2_with (first | ((with_reducible refine gate_callee (f := 19) rfl ?_); refine goesL_ (some 57) rfl rfl Tryd.func19 (by kernel_rfl) rfl #[.int .i64 a0, .string a1, .int .i64 a2] rfl (by (try simp only [List.map_toArray, List.map_cons, List.map_nil]); first | done | rfl | (simp only [List.length_drop, List.length_take]; rfl)) ?_; (with_reducible refine (wots_Chain.calls kj15 a0 a1 a2 t353 _ ?side1 A23.out).mono ?_); (case side1 => repeat (first | exact (Kd.C_below HRG.out HB.out) | (with_reducible refine Kd.C_alloc ?_ _) | (with_reducible refine Kd.C_drewN ?_ _) | (with_reducible refine Kd.C_drew ?_))); rintro e w30 ⟨rfl, hb⟩; refine ⟨_, rfl, ?_⟩; have n0_ := Aside0.mk (below_step (by repeat (first | (with_reducible first | exact HB.out | apply below_alloc | apply pw_below_drewN | apply below_drew1) | exact HB.out)) hb); clear HB; have HB := n0_; clear n0_; (try clear hb); (try clear hb2); (try clear hk); (try clear hi)) | ((with_reducible refine gate_callee (f := 20) rfl ?_); refine goesL_ (some 61) rfl rfl Tryd.func20 (by kernel_rfl) rfl #[.int .i64 a0, .string a1, .int .i64 a2] rfl (by (try simp only [List.map_toArray, List.map_cons, List.map_nil]); first | done | rfl | (simp only [List.length_drop, List.length_take]; rfl)) ?_; (with_reducible refine (palaverref03_Chain.calls kj15 a0 a1 a2 t354 _ A24.out).mono ?_); rintro e w31 ⟨rfl, hb⟩; refine ⟨_, rfl, ?_⟩; have n0_ := Aside0.mk (below_step (by repeat (first | (with_reducible first | exact HB.out | apply below_alloc | apply pw_below_drewN | apply below_drew1) | exact HB.out)) hb); clear HB; have HB := n0_; clear n0_; (try clear hb); (try clear hb2); (try clear hk); (try clear hi)))
         go_ret
         exact ⟨by first | rfl | (simp [errW_none, errW_some] <;> rfl) | (simp [*, errW_none, errW_some] <;> rfl), by repeat (first | (with_reducible first | exact HB.out | apply below_alloc | apply pw_below_drewN | apply below_drew1) | exact HB.out)⟩

end Go.Proofs.YtkdbobccchkdjaaDoor.PP
