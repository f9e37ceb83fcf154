-- WRITTEN BY a program of this work (wip/ownprint.py), for this seat
import Derived.Test.YtmedpnclkbkiiaaDoorPPx0
import Derived.Test.YtmedpnclkbkiiaaDoorPPx2
import Derived.Test.YtmedpnclkbkiiaaDoorPPx3
import Derived.Test.YtmedpnclkbkiiaaDoorPPx4
namespace Go.Proofs.YtmedpnclkbkiiaaDoor.PP
open Go.RowKit Go.Proofs.YtmedpnclkbkiiaaDoorW.PrintWords Go.Proofs.YtmedpnclkbkiiaaDoorW.PrintLast Go.Proofs.YtmedpnclkbkiiaaDoorW.PrintMore
attribute [local go_sem] max2_int min2_int max_two min_two max_three min_three max_four min_four   -- for this text's walks alone
set_option linter.unusedVariables false
set_option linter.unusedSimpArgs false

/-! ### palaverlaw06_EventChecks: function 7 -/
def palaverlaw06_EventChecks.f (k : Nat) (a0_0 : Int) (a0_1 : ByteArray) (l0_2 : List ByteArray) (a0_3 : ByteArray) (a0_4 : ByteArray) : Option (Bool) := (palaverref06_Great.f k a0_0 a0_1 l0_2 a0_3 a0_4).bind fun t494 => (if t494 = true then ((palaverlaw06_awake.f k).bind fun t495 => (some t495)) else ((palaverref06_Right.f k a0_0 a0_1 l0_2 a0_3 a0_4).bind fun t496 => (if t496 = true then ((palaverref06_Signed.f k a0_0 a0_1 l0_2 a0_3 a0_4).bind fun t497 => (if t497 = true then ((event_Check.f k a0_0 a0_1 l0_2 a0_3 a0_4).bind fun t498 => (if t498 = 0 then ((palaverlaw06_awake.f k).bind fun t499 => (some t499)) else (none))) else ((event_Check.f k a0_0 a0_1 l0_2 a0_3 a0_4).bind fun t500 => (if t500 = 4 then ((palaverlaw06_awake.f k).bind fun t501 => (some t501)) else (none))))) else ((event_Check.f k a0_0 a0_1 l0_2 a0_3 a0_4).bind fun t502 => (if t502 = 2 then ((palaverlaw06_awake.f k).bind fun t503 => (some t503)) else (none))))))
theorem palaverlaw06_EventChecks.mono : ∀ a0 a1 a2 a3 a4 k, LeO (palaverlaw06_EventChecks.f k a0 a1 a2 a3 a4) (palaverlaw06_EventChecks.f (k + 1) a0 a1 a2 a3 a4) := by
 intro a0 a1 a2 a3 a4 k
 unfold palaverlaw06_EventChecks.f
 repeat' first
  | (with_reducible exact event_Check.mono _ _ _ _ _ _)
  | (with_reducible exact palaverlaw06_awake.mono _)
  | (with_reducible exact palaverref06_Great.mono _ _ _ _ _ _)
  | (with_reducible exact palaverref06_Right.mono _ _ _ _ _ _)
  | (with_reducible exact palaverref06_Signed.mono _ _ _ _ _ _)
  | (with_reducible exact LeO.refl _)
  | (with_reducible exact LeO.none _)
  | (with_reducible refine LeO.ite ?_ ?_)
  | (with_reducible refine LeO.bind ?_ (fun _ => ?_))
  | exact event_Check.mono _ _ _ _ _ _
  | exact palaverlaw06_awake.mono _
  | exact palaverref06_Great.mono _ _ _ _ _ _
  | exact palaverref06_Right.mono _ _ _ _ _ _
  | exact palaverref06_Signed.mono _ _ _ _ _ _
  | exact LeO.none _
  | refine LeO.ite ?_ ?_
  | refine LeO.bind ?_ (fun _ => ?_)
set_option maxHeartbeats 64000000 in
set_option maxRecDepth 100000 in
theorem palaverlaw06_EventChecks.calls (k : Nat) (a0_0 : Int) (a0_1 : ByteArray) (A0_2 : Option Addr) (c0_2 : Nat) (l0_2 : List ByteArray) (a0_3 : ByteArray) (a0_4 : ByteArray) (r : Bool) (w : World) (hr0_2 : Kd.C Kd.string w A0_2 l0_2.length l0_2) (hc0_2 : l0_2.length ≤ c0_2) (hrG : Kd.C (Kd.int .u32) w (some ⟨0, 0, none⟩) keysL.length keysL) (h : palaverlaw06_EventChecks.f k a0_0 a0_1 l0_2 a0_3 a0_4 = some r) :
 Calls Tryd.prog 7 #[.agg #[.int .i64 a0_0, .string a0_1, .slice A0_2 l0_2.length c0_2, .string a0_3, .string a0_4]] w fun e w' => e = .returned (.bool r) ∧ Below w.heap.size w w' := by
 have hu24 := Tryd.underlying24
 have HR0_2 := Aside0.mk hr0_2
 have HC0_2 := Aside0.mk hc0_2
 clear hr0_2 hc0_2
 have HRG := Aside0.mk hrG
 clear hrG
 have HB := Aside0.mk (Below.refl w.heap.size w)
 have H : ((palaverref06_Great.f k a0_0 a0_1 l0_2 a0_3 a0_4).bind fun t494 => (if t494 = true then ((palaverlaw06_awake.f k).bind fun t495 => (some t495)) else ((palaverref06_Right.f k a0_0 a0_1 l0_2 a0_3 a0_4).bind fun t496 => (if t496 = true then ((palaverref06_Signed.f k a0_0 a0_1 l0_2 a0_3 a0_4).bind fun t497 => (if t497 = true then ((event_Check.f k a0_0 a0_1 l0_2 a0_3 a0_4).bind fun t498 => (if t498 = 0 then ((palaverlaw06_awake.f k).bind fun t499 => (some t499)) else (none))) else ((event_Check.f k a0_0 a0_1 l0_2 a0_3 a0_4).bind fun t500 => (if t500 = 4 then ((palaverlaw06_awake.f k).bind fun t501 => (some t501)) else (none))))) else ((event_Check.f k a0_0 a0_1 l0_2 a0_3 a0_4).bind fun t502 => (if t502 = 2 then ((palaverlaw06_awake.f k).bind fun t503 => (some t503)) else (none))))))) = some r := h
 clear h
 revert H; refine oa_ fun t494 A2 H => ?_
 by_cases c3 : t494 = true
 ·subst c3
  have H1 : ((palaverlaw06_awake.f k).bind fun t495 => (some t495)) = some r := by rw [if_pos rfl] at H; exact H
  clear H
  have H := H1
  clear H1
  revert H; refine oa_ fun t495 A4 H => ?_
  obtain rfl := Option.some.inj H
  go_enter Tryd.func7, Tryd.ntmps7
  go_wp2_with (first | ((with_reducible refine gate_dst (N := 1) rfl ?_); refine box_event ?hg (N := 1) ?hd (cs := #[.int .i64 a0_0, .string a0_1, .slice A0_2 l0_2.length c0_2, .string a0_3, .string a0_4]) (t := 24) ?hr ?_; (case hd => rfl); (case hg => rfl); (case hr => exact gr_); intro gb493 hg w5 hbox hb; have GE493 := Aside0.mk ((by rw [hg]; exact (below_size bl_) : w.heap.size ≤ gb493)); have GW493 := Aside0.mk ((by rw [hg]; exact (below_size bl_) : w.heap.size ≤ gb493)); have BK493 := Aside0.mk (hbox); replace HB := Aside0.mk (below_step bl_ hb); clear hb hbox hg; obtain ⟨hcz6_0, hcz6_1, hcz6_2, hcz6_3, hcz6_4⟩ := c5_ BK493.out; obtain ⟨hfz6_0, hfz6_1, hfz6_2, hfz6_3, hfz6_4⟩ := f5_ BK493.out) | ((with_reducible refine gate_callee (f := 9) rfl ?_); refine gL_ 5 Tryd.func9 #[.agg #[.int .i64 a0_0, .string a0_1, .slice A0_2 l0_2.length c0_2, .string a0_3, .string a0_4]] ?_; (with_reducible refine (palaverref06_Great.calls k a0_0 a0_1 _ _ l0_2 a0_3 a0_4 true _ ?side1 ?side2 A2.out).mono ?_); (case side1 => repeat (first | exact (Kd.C_below HR0_2.out HB.out) | (with_reducible refine Kd.C_alloc ?_ _) | (with_reducible refine Kd.C_drewN ?_ _) | (with_reducible refine Kd.C_drew ?_))); (case side2 => exact HC0_2.out); rintro e w7 ⟨rfl, hb⟩; refine ⟨_, rfl, ?_⟩; replace HB := Aside0.mk (below_step (bs_ GE493.out) hb); replace BK493 := Aside0.mk (blk_below (g := gb493) (o := .cells #[.int .i64 a0_0, .string a0_1, .slice A0_2 l0_2.length c0_2, .string a0_3, .string a0_4] 24 (0, 0)) (mb_ BK493.out) hb); clear hb) | ((with_reducible refine gate_callee (f := 10) rfl ?_); refine gL_ 6 Tryd.func10 #[] ?_; (with_reducible refine (palaverlaw06_awake.calls k  t495 _ ?side1 A4.out).mono ?_); (case side1 => repeat (first | exact (Kd.C_below HRG.out HB.out) | (with_reducible refine Kd.C_alloc ?_ _) | (with_reducible refine Kd.C_drewN ?_ _) | (with_reducible refine Kd.C_drew ?_))); rintro e w8 ⟨rfl, hb⟩; refine ⟨_, rfl, ?_⟩; replace HB := Aside0.mk (below_step (bs_ GE493.out) hb); replace BK493 := Aside0.mk (blk_below (g := gb493) (o := .cells #[.int .i64 a0_0, .string a0_1, .slice A0_2 l0_2.length c0_2, .string a0_3, .string a0_4] 24 (0, 0)) (mb_ BK493.out) hb); clear hb))
  go_ret
  exact ⟨er_, bs_ GE493.out⟩
 replace c3 := Bool.eq_false_iff.mpr c3
 subst c3
 have H1 : ((palaverref06_Right.f k a0_0 a0_1 l0_2 a0_3 a0_4).bind fun t496 => (if t496 = true then ((palaverref06_Signed.f k a0_0 a0_1 l0_2 a0_3 a0_4).bind fun t497 => (if t497 = true then ((event_Check.f k a0_0 a0_1 l0_2 a0_3 a0_4).bind fun t498 => (if t498 = 0 then ((palaverlaw06_awake.f k).bind fun t499 => (some t499)) else (none))) else ((event_Check.f k a0_0 a0_1 l0_2 a0_3 a0_4).bind fun t500 => (if t500 = 4 then ((palaverlaw06_awake.f k).bind fun t501 => (some t501)) else (none))))) else ((event_Check.f k a0_0 a0_1 l0_2 a0_3 a0_4).bind fun t502 => (if t502 = 2 then ((palaverlaw06_awake.f k).bind fun t503 => (some t503)) else (none))))) = some r := by rw [if_neg (show ¬ (false = true) by decide)] at H; exact H
 clear H
 have H := H1
 clear H1
 revert H; refine oa_ fun t496 A9 H => ?_
 by_cases c10 : t496 = true
 ·subst c10
  have H1 : ((palaverref06_Signed.f k a0_0 a0_1 l0_2 a0_3 a0_4).bind fun t497 => (if t497 = true then ((event_Check.f k a0_0 a0_1 l0_2 a0_3 a0_4).bind fun t498 => (if t498 = 0 then ((palaverlaw06_awake.f k).bind fun t499 => (some t499)) else (none))) else ((event_Check.f k a0_0 a0_1 l0_2 a0_3 a0_4).bind fun t500 => (if t500 = 4 then ((palaverlaw06_awake.f k).bind fun t501 => (some t501)) else (none))))) = some r := by rw [if_pos rfl] at H; exact H
  clear H
  have H := H1
  clear H1
  revert H; refine oa_ fun t497 A11 H => ?_
  by_cases c12 : t497 = true
  ·subst c12
   have H1 : ((event_Check.f k a0_0 a0_1 l0_2 a0_3 a0_4).bind fun t498 => (if t498 = 0 then ((palaverlaw06_awake.f k).bind fun t499 => (some t499)) else (none))) = some r := by rw [if_pos rfl] at H; exact H
   clear H
   have H := H1
   clear H1
   revert H; refine oa_ fun t498 A13 H => ?_
   by_cases c14 : t498 = 0
   ·rw [if_pos c14] at H
    have c14b0 : (t498 == 0) = true := beq_iff_eq.mpr c14
    have c14b1 : (t498 != 0) = false := bne_eq_false_iff_eq.mpr c14
    clear c14
    revert H; refine oa_ fun t499 A15 H => ?_
    obtain rfl := Option.some.inj H
    go_enter Tryd.func7, Tryd.ntmps7
    go_wp2_with (first | ((with_reducible refine gate_dst (N := 1) rfl ?_); refine box_event ?hg (N := 1) ?hd (cs := #[.int .i64 a0_0, .string a0_1, .slice A0_2 l0_2.length c0_2, .string a0_3, .string a0_4]) (t := 24) ?hr ?_; (case hd => rfl); (case hg => rfl); (case hr => exact gr_); intro gb493 hg w16 hbox hb; have GE493 := Aside0.mk ((by rw [hg]; exact (below_size bl_) : w.heap.size ≤ gb493)); have GW493 := Aside0.mk ((by rw [hg]; exact (below_size bl_) : w.heap.size ≤ gb493)); have BK493 := Aside0.mk (hbox); replace HB := Aside0.mk (below_step bl_ hb); clear hb hbox hg; obtain ⟨hcz17_0, hcz17_1, hcz17_2, hcz17_3, hcz17_4⟩ := c5_ BK493.out; obtain ⟨hfz17_0, hfz17_1, hfz17_2, hfz17_3, hfz17_4⟩ := f5_ BK493.out) | ((with_reducible refine gate_callee (f := 9) rfl ?_); refine gL_ 5 Tryd.func9 #[.agg #[.int .i64 a0_0, .string a0_1, .slice A0_2 l0_2.length c0_2, .string a0_3, .string a0_4]] ?_; (with_reducible refine (palaverref06_Great.calls k a0_0 a0_1 _ _ l0_2 a0_3 a0_4 false _ ?side1 ?side2 A2.out).mono ?_); (case side1 => repeat (first | exact (Kd.C_below HR0_2.out HB.out) | (with_reducible refine Kd.C_alloc ?_ _) | (with_reducible refine Kd.C_drewN ?_ _) | (with_reducible refine Kd.C_drew ?_))); (case side2 => exact HC0_2.out); rintro e w18 ⟨rfl, hb⟩; refine ⟨_, rfl, ?_⟩; replace HB := Aside0.mk (below_step (bs_ GE493.out) hb); replace BK493 := Aside0.mk (blk_below (g := gb493) (o := .cells #[.int .i64 a0_0, .string a0_1, .slice A0_2 l0_2.length c0_2, .string a0_3, .string a0_4] 24 (0, 0)) (mb_ BK493.out) hb); clear hb; obtain ⟨hcz19_0, hcz19_1, hcz19_2, hcz19_3, hcz19_4⟩ := c5_ BK493.out; obtain ⟨hfz19_0, hfz19_1, hfz19_2, hfz19_3, hfz19_4⟩ := f5_ BK493.out) | ((with_reducible refine gate_callee (f := 14) rfl ?_); refine gL_ 8 Tryd.func14 #[.agg #[.int .i64 a0_0, .string a0_1, .slice A0_2 l0_2.length c0_2, .string a0_3, .string a0_4]] ?_; (with_reducible refine (palaverref06_Right.calls k a0_0 a0_1 _ _ l0_2 a0_3 a0_4 true _ ?side1 ?side2 A9.out).mono ?_); (case side1 => repeat (first | exact (Kd.C_below HR0_2.out HB.out) | (with_reducible refine Kd.C_alloc ?_ _) | (with_reducible refine Kd.C_drewN ?_ _) | (with_reducible refine Kd.C_drew ?_))); (case side2 => exact HC0_2.out); rintro e w20 ⟨rfl, hb⟩; refine ⟨_, rfl, ?_⟩; replace HB := Aside0.mk (below_step (bs_ GE493.out) hb); replace BK493 := Aside0.mk (blk_below (g := gb493) (o := .cells #[.int .i64 a0_0, .string a0_1, .slice A0_2 l0_2.length c0_2, .string a0_3, .string a0_4] 24 (0, 0)) (mb_ BK493.out) hb); clear hb; obtain ⟨hcz21_0, hcz21_1, hcz21_2, hcz21_3, hcz21_4⟩ := c5_ BK493.out; obtain ⟨hfz21_0, hfz21_1, hfz21_2, hfz21_3, hfz21_4⟩ := f5_ BK493.out) | ((with_reducible refine gate_callee (f := 22) rfl ?_); refine gL_ 11 Tryd.func22 #[.agg #[.int .i64 a0_0, .string a0_1, .slice A0_2 l0_2.length c0_2, .string a0_3, .string a0_4]] ?_; (with_reducible refine (palaverref06_Signed.calls k a0_0 a0_1 _ _ l0_2 a0_3 a0_4 true _ ?side1 ?side2 A11.out).mono ?_); (case side1 => repeat (first | exact (Kd.C_below HR0_2.out HB.out) | (with_reducible refine Kd.C_alloc ?_ _) | (with_reducible refine Kd.C_drewN ?_ _) | (with_reducible refine Kd.C_drew ?_))); (case side2 => exact HC0_2.out); rintro e w22 ⟨rfl, hb⟩; refine ⟨_, rfl, ?_⟩; replace HB := Aside0.mk (below_step (bs_ GE493.out) hb); replace BK493 := Aside0.mk (blk_below (g := gb493) (o := .cells #[.int .i64 a0_0, .string a0_1, .slice A0_2 l0_2.length c0_2, .string a0_3, .string a0_4] 24 (0, 0)) (mb_ BK493.out) hb); clear hb; obtain ⟨hcz23_0, hcz23_1, hcz23_2, hcz23_3, hcz23_4⟩ := c5_ BK493.out; obtain ⟨hfz23_0, hfz23_1, hfz23_2, hfz23_3, hfz23_4⟩ := f5_ BK493.out) | ((with_reducible refine gate_callee (f := 23) rfl ?_); refine gL_ 14 Tryd.func23 #[.agg #[.int .i64 a0_0, .string a0_1, .slice A0_2 l0_2.length c0_2, .string a0_3, .string a0_4]] ?_; (with_reducible refine (event_Check.calls k a0_0 a0_1 _ _ l0_2 a0_3 a0_4 t498 _ ?side1 ?side2 ?side3 A13.out).mono ?_); (case side1 => repeat (first | exact (Kd.C_below HR0_2.out HB.out) | (with_reducible refine Kd.C_alloc ?_ _) | (with_reducible refine Kd.C_drewN ?_ _) | (with_reducible refine Kd.C_drew ?_))); (case side2 => exact HC0_2.out); (case side3 => repeat (first | exact (Kd.C_below HRG.out HB.out) | (with_reducible refine Kd.C_alloc ?_ _) | (with_reducible refine Kd.C_drewN ?_ _) | (with_reducible refine Kd.C_drew ?_))); rintro e w24 ⟨rfl, hb⟩; refine ⟨_, rfl, ?_⟩; replace HB := Aside0.mk (below_step (bs_ GE493.out) hb); replace BK493 := Aside0.mk (blk_below (g := gb493) (o := .cells #[.int .i64 a0_0, .string a0_1, .slice A0_2 l0_2.length c0_2, .string a0_3, .string a0_4] 24 (0, 0)) (mb_ BK493.out) hb); clear hb) | (go_at_call 10; (with_reducible refine (palaverlaw06_awake.calls k  t499 _ ?side1 A15.out).mono ?_); (case side1 => repeat (first | exact (Kd.C_below HRG.out HB.out) | (with_reducible refine Kd.C_alloc ?_ _) | (with_reducible refine Kd.C_drewN ?_ _) | (with_reducible refine Kd.C_drew ?_))); rintro e w25 ⟨rfl, hb⟩; replace HB := Aside0.mk (below_step (bs_ GE493.out) hb); replace BK493 := Aside0.mk (blk_below (g := gb493) (o := .cells #[.int .i64 a0_0, .string a0_1, .slice A0_2 l0_2.length c0_2, .string a0_3, .string a0_4] 24 (0, 0)) (mb_ BK493.out) hb); clear hb))
    go_ret
    exact ⟨er_, bs_ GE493.out⟩
   rw [if_neg c14] at H
   have c14b0 : (t498 == 0) = false := beq_eq_false_iff_ne.mpr c14
   have c14b1 : (t498 != 0) = true := bne_iff_ne.mpr c14
   exact absurd H (by simp)
  replace c12 := Bool.eq_false_iff.mpr c12
  subst c12
  have H1 : ((event_Check.f k a0_0 a0_1 l0_2 a0_3 a0_4).bind fun t500 => (if t500 = 4 then ((palaverlaw06_awake.f k).bind fun t501 => (some t501)) else (none))) = some r := by rw [if_neg (show ¬ (false = true) by decide)] at H; exact H
  clear H
  have H := H1
  clear H1
  revert H; refine oa_ fun t500 A35 H => ?_
  by_cases c36 : t500 = 4
  ·rw [if_pos c36] at H
   have c36b0 : (t500 == 4) = true := beq_iff_eq.mpr c36
   have c36b1 : (t500 != 4) = false := bne_eq_false_iff_eq.mpr c36
   clear c36
   revert H; refine oa_ fun t501 A37 H => ?_
   obtain rfl := Option.some.inj H
   go_enter Tryd.func7, Tryd.ntmps7
   go_wp2_with (first | ((with_reducible refine gate_dst (N := 1) rfl ?_); refine box_event ?hg (N := 1) ?hd (cs := #[.int .i64 a0_0, .string a0_1, .slice A0_2 l0_2.length c0_2, .string a0_3, .string a0_4]) (t := 24) ?hr ?_; (case hd => rfl); (case hg => rfl); (case hr => exact gr_); intro gb493 hg w38 hbox hb; have GE493 := Aside0.mk ((by rw [hg]; exact (below_size bl_) : w.heap.size ≤ gb493)); have GW493 := Aside0.mk ((by rw [hg]; exact (below_size bl_) : w.heap.size ≤ gb493)); have BK493 := Aside0.mk (hbox); replace HB := Aside0.mk (below_step bl_ hb); clear hb hbox hg; obtain ⟨hcz39_0, hcz39_1, hcz39_2, hcz39_3, hcz39_4⟩ := c5_ BK493.out; obtain ⟨hfz39_0, hfz39_1, hfz39_2, hfz39_3, hfz39_4⟩ := f5_ BK493.out) | ((with_reducible refine gate_callee (f := 9) rfl ?_); refine gL_ 5 Tryd.func9 #[.agg #[.int .i64 a0_0, .string a0_1, .slice A0_2 l0_2.length c0_2, .string a0_3, .string a0_4]] ?_; (with_reducible refine (palaverref06_Great.calls k a0_0 a0_1 _ _ l0_2 a0_3 a0_4 false _ ?side1 ?side2 A2.out).mono ?_); (case side1 => repeat (first | exact (Kd.C_below HR0_2.out HB.out) | (with_reducible refine Kd.C_alloc ?_ _) | (with_reducible refine Kd.C_drewN ?_ _) | (with_reducible refine Kd.C_drew ?_))); (case side2 => exact HC0_2.out); rintro e w40 ⟨rfl, hb⟩; refine ⟨_, rfl, ?_⟩; replace HB := Aside0.mk (below_step (bs_ GE493.out) hb); replace BK493 := Aside0.mk (blk_below (g := gb493) (o := .cells #[.int .i64 a0_0, .string a0_1, .slice A0_2 l0_2.length c0_2, .string a0_3, .string a0_4] 24 (0, 0)) (mb_ BK493.out) hb); clear hb; obtain ⟨hcz41_0, hcz41_1, hcz41_2, hcz41_3, hcz41_4⟩ := c5_ BK493.out; obtain ⟨hfz41_0, hfz41_1, hfz41_2, hfz41_3, hfz41_4⟩ := f5_ BK493.out) | ((with_reducible refine gate_callee (f := 14) rfl ?_); refine gL_ 8 Tryd.func14 #[.agg #[.int .i64 a0_0, .string a0_1, .slice A0_2 l0_2.length c0_2, .string a0_3, .string a0_4]] ?_; (with_reducible refine (palaverref06_Right.calls k a0_0 a0_1 _ _ l0_2 a0_3 a0_4 true _ ?side1 ?side2 A9.out).mono ?_); (case side1 => repeat (first | exact (Kd.C_below HR0_2.out HB.out) | (with_reducible refine Kd.C_alloc ?_ _) | (with_reducible refine Kd.C_drewN ?_ _) | (with_reducible refine Kd.C_drew ?_))); (case side2 => exact HC0_2.out); rintro e w42 ⟨rfl, hb⟩; refine ⟨_, rfl, ?_⟩; replace HB := Aside0.mk (below_step (bs_ GE493.out) hb); replace BK493 := Aside0.mk (blk_below (g := gb493) (o := .cells #[.int .i64 a0_0, .string a0_1, .slice A0_2 l0_2.length c0_2, .string a0_3, .string a0_4] 24 (0, 0)) (mb_ BK493.out) hb); clear hb; obtain ⟨hcz43_0, hcz43_1, hcz43_2, hcz43_3, hcz43_4⟩ := c5_ BK493.out; obtain ⟨hfz43_0, hfz43_1, hfz43_2, hfz43_3, hfz43_4⟩ := f5_ BK493.out) | ((with_reducible refine gate_callee (f := 22) rfl ?_); refine gL_ 11 Tryd.func22 #[.agg #[.int .i64 a0_0, .string a0_1, .slice A0_2 l0_2.length c0_2, .string a0_3, .string a0_4]] ?_; (with_reducible refine (palaverref06_Signed.calls k a0_0 a0_1 _ _ l0_2 a0_3 a0_4 false _ ?side1 ?side2 A11.out).mono ?_); (case side1 => repeat (first | exact (Kd.C_below HR0_2.out HB.out) | (with_reducible refine Kd.C_alloc ?_ _) | (with_reducible refine Kd.C_drewN ?_ _) | (with_reducible refine Kd.C_drew ?_))); (case side2 => exact HC0_2.out); rintro e w44 ⟨rfl, hb⟩; refine ⟨_, rfl, ?_⟩; replace HB := Aside0.mk (below_step (bs_ GE493.out) hb); replace BK493 := Aside0.mk (blk_below (g := gb493) (o := .cells #[.int .i64 a0_0, .string a0_1, .slice A0_2 l0_2.length c0_2, .string a0_3, .string a0_4] 24 (0, 0)) (mb_ BK493.out) hb); clear hb; obtain ⟨hcz45_0, hcz45_1, hcz45_2, hcz45_3, hcz45_4⟩ := c5_ BK493.out; obtain ⟨hfz45_0, hfz45_1, hfz45_2, hfz45_3, hfz45_4⟩ := f5_ BK493.out) | ((with_reducible refine gate_callee (f := 23) rfl ?_); refine gL_ 14 Tryd.func23 #[.agg #[.int .i64 a0_0, .string a0_1, .slice A0_2 l0_2.length c0_2, .string a0_3, .string a0_4]] ?_; (with_reducible refine (event_Check.calls k a0_0 a0_1 _ _ l0_2 a0_3 a0_4 t500 _ ?side1 ?side2 ?side3 A35.out).mono ?_); (case side1 => repeat (first | exact (Kd.C_below HR0_2.out HB.out) | (with_reducible refine Kd.C_alloc ?_ _) | (with_reducible refine Kd.C_drewN ?_ _) | (with_reducible refine Kd.C_drew ?_))); (case side2 => exact HC0_2.out); (case side3 => repeat (first | exact (Kd.C_below HRG.out HB.out) | (with_reducible refine Kd.C_alloc ?_ _) | (with_reducible refine Kd.C_drewN ?_ _) | (with_reducible refine Kd.C_drew ?_))); rintro e w46 ⟨rfl, hb⟩; refine ⟨_, rfl, ?_⟩; replace HB := Aside0.mk (below_step (bs_ GE493.out) hb); replace BK493 := Aside0.mk (blk_below (g := gb493) (o := .cells #[.int .i64 a0_0, .string a0_1, .slice A0_2 l0_2.length c0_2, .string a0_3, .string a0_4] 24 (0, 0)) (mb_ BK493.out) hb); clear hb) | (go_at_call 10; (with_reducible refine (palaverlaw06_awake.calls k  t501 _ ?side1 A37.out).mono ?_); (case side1 => repeat (first | exact (Kd.C_below HRG.out HB.out) | (with_reducible refine Kd.C_alloc ?_ _) | (with_reducible refine Kd.C_drewN ?_ _) | (with_reducible refine Kd.C_drew ?_))); rintro e w47 ⟨rfl, hb⟩; replace HB := Aside0.mk (below_step (bs_ GE493.out) hb); replace BK493 := Aside0.mk (blk_below (g := gb493) (o := .cells #[.int .i64 a0_0, .string a0_1, .slice A0_2 l0_2.length c0_2, .string a0_3, .string a0_4] 24 (0, 0)) (mb_ BK493.out) hb); clear hb))
   go_ret
   exact ⟨er_, bs_ GE493.out⟩
  rw [if_neg c36] at H
  have c36b0 : (t500 == 4) = false := beq_eq_false_iff_ne.mpr c36
  have c36b1 : (t500 != 4) = true := bne_iff_ne.mpr c36
  exact absurd H (by simp)
 replace c10 := Bool.eq_false_iff.mpr c10
 subst c10
 have H1 : ((event_Check.f k a0_0 a0_1 l0_2 a0_3 a0_4).bind fun t502 => (if t502 = 2 then ((palaverlaw06_awake.f k).bind fun t503 => (some t503)) else (none))) = some r := by rw [if_neg (show ¬ (false = true) by decide)] at H; exact H
 clear H
 have H := H1
 clear H1
 revert H; refine oa_ fun t502 A57 H => ?_
 by_cases c58 : t502 = 2
 ·rw [if_pos c58] at H
  have c58b0 : (t502 == 2) = true := beq_iff_eq.mpr c58
  have c58b1 : (t502 != 2) = false := bne_eq_false_iff_eq.mpr c58
  clear c58
  revert H; refine oa_ fun t503 A59 H => ?_
  obtain rfl := Option.some.inj H
  go_enter Tryd.func7, Tryd.ntmps7
  go_wp2_with (first | ((with_reducible refine gate_dst (N := 1) rfl ?_); refine box_event ?hg (N := 1) ?hd (cs := #[.int .i64 a0_0, .string a0_1, .slice A0_2 l0_2.length c0_2, .string a0_3, .string a0_4]) (t := 24) ?hr ?_; (case hd => rfl); (case hg => rfl); (case hr => exact gr_); intro gb493 hg w60 hbox hb; have GE493 := Aside0.mk ((by rw [hg]; exact (below_size bl_) : w.heap.size ≤ gb493)); have GW493 := Aside0.mk ((by rw [hg]; exact (below_size bl_) : w.heap.size ≤ gb493)); have BK493 := Aside0.mk (hbox); replace HB := Aside0.mk (below_step bl_ hb); clear hb hbox hg; obtain ⟨hcz61_0, hcz61_1, hcz61_2, hcz61_3, hcz61_4⟩ := c5_ BK493.out; obtain ⟨hfz61_0, hfz61_1, hfz61_2, hfz61_3, hfz61_4⟩ := f5_ BK493.out) | ((with_reducible refine gate_callee (f := 9) rfl ?_); refine gL_ 5 Tryd.func9 #[.agg #[.int .i64 a0_0, .string a0_1, .slice A0_2 l0_2.length c0_2, .string a0_3, .string a0_4]] ?_; (with_reducible refine (palaverref06_Great.calls k a0_0 a0_1 _ _ l0_2 a0_3 a0_4 false _ ?side1 ?side2 A2.out).mono ?_); (case side1 => repeat (first | exact (Kd.C_below HR0_2.out HB.out) | (with_reducible refine Kd.C_alloc ?_ _) | (with_reducible refine Kd.C_drewN ?_ _) | (with_reducible refine Kd.C_drew ?_))); (case side2 => exact HC0_2.out); rintro e w62 ⟨rfl, hb⟩; refine ⟨_, rfl, ?_⟩; replace HB := Aside0.mk (below_step (bs_ GE493.out) hb); replace BK493 := Aside0.mk (blk_below (g := gb493) (o := .cells #[.int .i64 a0_0, .string a0_1, .slice A0_2 l0_2.length c0_2, .string a0_3, .string a0_4] 24 (0, 0)) (mb_ BK493.out) hb); clear hb; obtain ⟨hcz63_0, hcz63_1, hcz63_2, hcz63_3, hcz63_4⟩ := c5_ BK493.out; obtain ⟨hfz63_0, hfz63_1, hfz63_2, hfz63_3, hfz63_4⟩ := f5_ BK493.out) | ((with_reducible refine gate_callee (f := 14) rfl ?_); refine gL_ 8 Tryd.func14 #[.agg #[.int .i64 a0_0, .string a0_1, .slice A0_2 l0_2.length c0_2, .string a0_3, .string a0_4]] ?_; (with_reducible refine (palaverref06_Right.calls k a0_0 a0_1 _ _ l0_2 a0_3 a0_4 false _ ?side1 ?side2 A9.out).mono ?_); (case side1 => repeat (first | exact (Kd.C_below HR0_2.out HB.out) | (with_reducible refine Kd.C_alloc ?_ _) | (with_reducible refine Kd.C_drewN ?_ _) | (with_reducible refine Kd.C_drew ?_))); (case side2 => exact HC0_2.out); rintro e w64 ⟨rfl, hb⟩; refine ⟨_, rfl, ?_⟩; replace HB := Aside0.mk (below_step (bs_ GE493.out) hb); replace BK493 := Aside0.mk (blk_below (g := gb493) (o := .cells #[.int .i64 a0_0, .string a0_1, .slice A0_2 l0_2.length c0_2, .string a0_3, .string a0_4] 24 (0, 0)) (mb_ BK493.out) hb); clear hb; obtain ⟨hcz65_0, hcz65_1, hcz65_2, hcz65_3, hcz65_4⟩ := c5_ BK493.out; obtain ⟨hfz65_0, hfz65_1, hfz65_2, hfz65_3, hfz65_4⟩ := f5_ BK493.out) | ((with_reducible refine gate_callee (f := 23) rfl ?_); refine gL_ 14 Tryd.func23 #[.agg #[.int .i64 a0_0, .string a0_1, .slice A0_2 l0_2.length c0_2, .string a0_3, .string a0_4]] ?_; (with_reducible refine (event_Check.calls k a0_0 a0_1 _ _ l0_2 a0_3 a0_4 t502 _ ?side1 ?side2 ?side3 A57.out).mono ?_); (case side1 => repeat (first | exact (Kd.C_below HR0_2.out HB.out) | (with_reducible refine Kd.C_alloc ?_ _) | (with_reducible refine Kd.C_drewN ?_ _) | (with_reducible refine Kd.C_drew ?_))); (case side2 => exact HC0_2.out); (case side3 => repeat (first | exact (Kd.C_below HRG.out HB.out) | (with_reducible refine Kd.C_alloc ?_ _) | (with_reducible refine Kd.C_drewN ?_ _) | (with_reducible refine Kd.C_drew ?_))); rintro e w66 ⟨rfl, hb⟩; refine ⟨_, rfl, ?_⟩; replace HB := Aside0.mk (below_step (bs_ GE493.out) hb); replace BK493 := Aside0.mk (blk_below (g := gb493) (o := .cells #[.int .i64 a0_0, .string a0_1, .slice A0_2 l0_2.length c0_2, .string a0_3, .string a0_4] 24 (0, 0)) (mb_ BK493.out) hb); clear hb) | (go_at_call 10; (with_reducible refine (palaverlaw06_awake.calls k  t503 _ ?side1 A59.out).mono ?_); (case side1 => repeat (first | exact (Kd.C_below HRG.out HB.out) | (with_reducible refine Kd.C_alloc ?_ _) | (with_reducible refine Kd.C_drewN ?_ _) | (with_reducible refine Kd.C_drew ?_))); rintro e w67 ⟨rfl, hb⟩; replace HB := Aside0.mk (below_step (bs_ GE493.out) hb); replace BK493 := Aside0.mk (blk_below (g := gb493) (o := .cells #[.int .i64 a0_0, .string a0_1, .slice A0_2 l0_2.length c0_2, .string a0_3, .string a0_4] 24 (0, 0)) (mb_ BK493.out) hb); clear hb))
  go_ret
  exact ⟨er_, bs_ GE493.out⟩
 rw [if_neg c58] at H
 have c58b0 : (t502 == 2) = false := beq_eq_false_iff_ne.mpr c58
 have c58b1 : (t502 != 2) = true := bne_iff_ne.mpr c58
 exact absurd H (by simp)

end Go.Proofs.YtmedpnclkbkiiaaDoor.PP
