-- WRITTEN BY a program of this work (wip/ownprint.py), for this seat
import Derived.Test.YtmedpnclkbkiiaaDoorPPx0
import Derived.Test.YtmedpnclkbkiiaaDoorPPx6
namespace Go.Proofs.YtmedpnclkbkiiaaDoor.PP
open Go.RowKit Go.Proofs.YtmedpnclkbkiiaaDoorW.PrintWords Go.Proofs.YtmedpnclkbkiiaaDoorW.PrintLast Go.Proofs.YtmedpnclkbkiiaaDoorW.PrintMore
attribute [local go_sem] max2_int min2_int max_two min_two max_three min_three max_four min_four   -- for this text's walks alone
set_option linter.unusedVariables false
set_option linter.unusedSimpArgs false

/-! ### palaverref06_Right: function 14 -/
mutual
def palaverref06_Right.j0 : Nat → Bool → Int → ByteArray → List ByteArray → ByteArray → ByteArray → Option (Bool)
 | 0, _, _, _, _, _, _ => none
 | k + 1, x35, x269000, x269001, x269002, x269003, x269004 => if x35 = true then (some false) else (if ((x269000 == 1) != ((x269002.length : Int) == 0)) = true then (palaverref06_Right.j1 k true x269000 x269001 x269002 x269003 x269004) else (if x269000 = 4 then (palaverref06_Right.j1 k ((x269003.size : Int) != 32) x269000 x269001 x269002 x269003 x269004) else (if x269000 = 5 then (palaverref06_Right.j1 k ((x269003.size : Int) != 32) x269000 x269001 x269002 x269003 x269004) else (palaverref06_Right.j1 k false x269000 x269001 x269002 x269003 x269004))))
def palaverref06_Right.j1 : Nat → Bool → Int → ByteArray → List ByteArray → ByteArray → ByteArray → Option (Bool)
 | 0, _, _, _, _, _, _ => none
 | k + 1, x59, x269000, x269001, x269002, x269003, x269004 => if x59 = true then (some false) else (palaverref06_Right.l0 k 0 x269000 x269001 x269002 x269003 x269004)
def palaverref06_Right.l0 : Nat → Int → Int → ByteArray → List ByteArray → ByteArray → ByteArray → Option (Bool)
 | 0, _, _, _, _, _, _ => none
 | k + 1, x3, x269000, x269001, x269002, x269003, x269004 => if x3 < (x269002.length : Int) then (if 0 ≤ x3 then (if ((rdOf ByteArray.empty x269002 x3).size : Int) = 32 then (if x3 > 0 then (if 0 ≤ (wrap64 (x3 - 1)) then (if (wrap64 (x3 - 1)) < (x269002.length : Int) then (if ((Op.bytesLess ((rdOf ByteArray.empty x269002 (wrap64 (x3 - 1))).toList) ((rdOf ByteArray.empty x269002 x3).toList)) = true) then (palaverref06_Right.l0 k (wrap64 (x3 + 1)) x269000 x269001 x269002 x269003 x269004) else (some false)) else (none)) else (none)) else (palaverref06_Right.l0 k (wrap64 (x3 + 1)) x269000 x269001 x269002 x269003 x269004)) else (some false)) else (none)) else (some true)
end
def palaverref06_Right.f (k : Nat) (a0_0 : Int) (a0_1 : ByteArray) (l0_2 : List ByteArray) (a0_3 : ByteArray) (a0_4 : ByteArray) : Option (Bool) := if a0_0 < 1 then (palaverref06_Right.j0 k true a0_0 a0_1 l0_2 a0_3 a0_4) else (if a0_0 > 5 then (palaverref06_Right.j0 k true a0_0 a0_1 l0_2 a0_3 a0_4) else (if (a0_1.size : Int) = 32 then (if (l0_2.length : Int) > 8 then (palaverref06_Right.j0 k true a0_0 a0_1 l0_2 a0_3 a0_4) else (if (a0_3.size : Int) > 200 then (palaverref06_Right.j0 k true a0_0 a0_1 l0_2 a0_3 a0_4) else (palaverref06_Right.j0 k (decide ((a0_4.size : Int) > 65535)) a0_0 a0_1 l0_2 a0_3 a0_4))) else (palaverref06_Right.j0 k true a0_0 a0_1 l0_2 a0_3 a0_4)))
theorem palaverref06_Right.mono_l : ∀ k, (∀ y0 y1 y2 y3 y4 y5, LeO (palaverref06_Right.j0 k y0 y1 y2 y3 y4 y5) (palaverref06_Right.j0 (k + 1) y0 y1 y2 y3 y4 y5)) ∧ (∀ y0 y1 y2 y3 y4 y5, LeO (palaverref06_Right.j1 k y0 y1 y2 y3 y4 y5) (palaverref06_Right.j1 (k + 1) y0 y1 y2 y3 y4 y5)) ∧ (∀ y0 y1 y2 y3 y4 y5, LeO (palaverref06_Right.l0 k y0 y1 y2 y3 y4 y5) (palaverref06_Right.l0 (k + 1) y0 y1 y2 y3 y4 y5))
 | 0 => ⟨fun _ _ _ _ _ _ r h => by simp [palaverref06_Right.j0] at h, fun _ _ _ _ _ _ r h => by simp [palaverref06_Right.j1] at h, fun _ _ _ _ _ _ r h => by simp [palaverref06_Right.l0] at h⟩
 | k + 1 => by
  obtain ⟨ih0, ih1, ih2⟩ := palaverref06_Right.mono_l k
  refine ⟨?_, ?_, ?_⟩
  ·intro y0 y1 y2 y3 y4 y5
   unfold palaverref06_Right.j0
   repeat' first
   | (with_reducible exact ih0 _ _ _ _ _ _)
   | (with_reducible exact ih1 _ _ _ _ _ _)
   | (with_reducible exact ih2 _ _ _ _ _ _)
   | (with_reducible exact LeO.refl _)
   | (with_reducible exact LeO.none _)
   | (with_reducible refine LeO.ite ?_ ?_)
   | (with_reducible refine LeO.bind ?_ (fun _ => ?_))
   | exact ih0 _ _ _ _ _ _
   | exact ih1 _ _ _ _ _ _
   | exact ih2 _ _ _ _ _ _
   | exact LeO.none _
   | refine LeO.ite ?_ ?_
   | refine LeO.bind ?_ (fun _ => ?_)
  ·intro y0 y1 y2 y3 y4 y5
   unfold palaverref06_Right.j1
   repeat' first
   | (with_reducible exact ih0 _ _ _ _ _ _)
   | (with_reducible exact ih1 _ _ _ _ _ _)
   | (with_reducible exact ih2 _ _ _ _ _ _)
   | (with_reducible exact LeO.refl _)
   | (with_reducible exact LeO.none _)
   | (with_reducible refine LeO.ite ?_ ?_)
   | (with_reducible refine LeO.bind ?_ (fun _ => ?_))
   | exact ih0 _ _ _ _ _ _
   | exact ih1 _ _ _ _ _ _
   | exact ih2 _ _ _ _ _ _
   | exact LeO.none _
   | refine LeO.ite ?_ ?_
   | refine LeO.bind ?_ (fun _ => ?_)
  intro y0 y1 y2 y3 y4 y5
  unfold palaverref06_Right.l0
  repeat' first
  | (with_reducible exact ih0 _ _ _ _ _ _)
  | (with_reducible exact ih1 _ _ _ _ _ _)
  | (with_reducible exact ih2 _ _ _ _ _ _)
  | (with_reducible exact LeO.refl _)
  | (with_reducible exact LeO.none _)
  | (with_reducible refine LeO.ite ?_ ?_)
  | (with_reducible refine LeO.bind ?_ (fun _ => ?_))
  | exact ih0 _ _ _ _ _ _
  | exact ih1 _ _ _ _ _ _
  | exact ih2 _ _ _ _ _ _
  | exact LeO.none _
  | refine LeO.ite ?_ ?_
  | refine LeO.bind ?_ (fun _ => ?_)
theorem palaverref06_Right.mono : ∀ a0 a1 a2 a3 a4 k, LeO (palaverref06_Right.f k a0 a1 a2 a3 a4) (palaverref06_Right.f (k + 1) a0 a1 a2 a3 a4) := by
 intro a0 a1 a2 a3 a4 k
 obtain ⟨ih0, ih1, ih2⟩ := palaverref06_Right.mono_l k
 unfold palaverref06_Right.f
 repeat' first
  | (with_reducible exact ih0 _ _ _ _ _ _)
  | (with_reducible exact ih1 _ _ _ _ _ _)
  | (with_reducible exact ih2 _ _ _ _ _ _)
  | (with_reducible exact LeO.refl _)
  | (with_reducible exact LeO.none _)
  | (with_reducible refine LeO.ite ?_ ?_)
  | (with_reducible refine LeO.bind ?_ (fun _ => ?_))
  | exact ih0 _ _ _ _ _ _
  | exact ih1 _ _ _ _ _ _
  | exact ih2 _ _ _ _ _ _
  | exact LeO.none _
  | refine LeO.ite ?_ ?_
  | refine LeO.bind ?_ (fun _ => ?_)
set_option maxHeartbeats 64000000 in
set_option maxRecDepth 100000 in
theorem palaverref06_Right.calls (k : Nat) (a0_0 : Int) (a0_1 : ByteArray) (A0_2 : Option Addr) (c0_2 : Nat) (l0_2 : List ByteArray) (a0_3 : ByteArray) (a0_4 : ByteArray) (r : Bool) (w : World) (hr0_2 : Kd.C Kd.string w A0_2 l0_2.length l0_2) (hc0_2 : l0_2.length ≤ c0_2) (h : palaverref06_Right.f k a0_0 a0_1 l0_2 a0_3 a0_4 = some r) :
 Calls Tryd.prog 14 #[.agg #[.int .i64 a0_0, .string a0_1, .slice A0_2 l0_2.length c0_2, .string a0_3, .string a0_4]] w fun e w' => e = .returned (.bool r) ∧ Below w.heap.size w w' := by
 have hu24 := Tryd.underlying24
 have HR0_2 := Aside0.mk hr0_2
 have HC0_2 := Aside0.mk hc0_2
 clear hr0_2 hc0_2
 have HB := Aside0.mk (Below.refl w.heap.size w)
 have H : (if a0_0 < 1 then (palaverref06_Right.j0 k true a0_0 a0_1 l0_2 a0_3 a0_4) else (if a0_0 > 5 then (palaverref06_Right.j0 k true a0_0 a0_1 l0_2 a0_3 a0_4) else (if (a0_1.size : Int) = 32 then (if (l0_2.length : Int) > 8 then (palaverref06_Right.j0 k true a0_0 a0_1 l0_2 a0_3 a0_4) else (if (a0_3.size : Int) > 200 then (palaverref06_Right.j0 k true a0_0 a0_1 l0_2 a0_3 a0_4) else (palaverref06_Right.j0 k (decide ((a0_4.size : Int) > 65535)) a0_0 a0_1 l0_2 a0_3 a0_4))) else (palaverref06_Right.j0 k true a0_0 a0_1 l0_2 a0_3 a0_4)))) = some r := h
 clear h
 have HC2 := Aside0.mk H
 clear H
 go_enter Tryd.func14, Tryd.ntmps14
 go_upto_region 1 with (first | ((with_reducible refine gate_dst (N := 1) rfl ?_); (try (refine gate_guard (by rfl) ?_; dsimp only)); refine box_event ?hg (N := 1) ?hd (cs := #[.int .i64 a0_0, .string a0_1, .slice A0_2 l0_2.length c0_2, .string a0_3, .string a0_4]) (t := 24) ?hr ?_; (case hd => rfl); (case hg => rfl); (case hr => first | (go_simp; done) | (go_simp; rfl)); intro gb268 hg w3 hbox hb; have n0_ := Aside0.mk (below_step (by repeat (first | (with_reducible first | exact HB.out | apply lA_ | apply lN_ | apply lD_) | exact HB.out)) hb); have n1_ := Aside0.mk (hbox); have n2_ := Aside0.mk ((by rw [hg]; exact (below_size (by repeat (first | (with_reducible first | exact HB.out | apply lA_ | apply lN_ | apply lD_) | exact HB.out))) : w.heap.size ≤ gb268)); have n3_ := Aside0.mk ((by rw [hg]; exact (below_size (by repeat (first | (with_reducible first | exact HB.out | apply lA_ | apply lN_ | apply lD_) | exact HB.out))) : w.heap.size ≤ gb268)); clear HB; have HB := n0_; have BK268 := n1_; have GW268 := n2_; have GE268 := n3_; clear n0_ n1_ n2_ n3_; clear hb hbox hg))
 repeat (go_quiet (first | ((with_reducible refine gate_dst (N := 1) rfl ?_); (try (refine gate_guard (by rfl) ?_; dsimp only)); refine box_event ?hg (N := 1) ?hd (cs := #[.int .i64 a0_0, .string a0_1, .slice A0_2 l0_2.length c0_2, .string a0_3, .string a0_4]) (t := 24) ?hr ?_; (case hd => rfl); (case hg => rfl); (case hr => first | (go_simp; done) | (go_simp; rfl)); intro gb268 hg w3 hbox hb; have n0_ := Aside0.mk (below_step (by repeat (first | (with_reducible first | exact HB.out | apply lA_ | apply lN_ | apply lD_) | exact HB.out)) hb); have n1_ := Aside0.mk (hbox); have n2_ := Aside0.mk ((by rw [hg]; exact (below_size (by repeat (first | (with_reducible first | exact HB.out | apply lA_ | apply lN_ | apply lD_) | exact HB.out))) : w.heap.size ≤ gb268)); have n3_ := Aside0.mk ((by rw [hg]; exact (below_size (by repeat (first | (with_reducible first | exact HB.out | apply lA_ | apply lN_ | apply lD_) | exact HB.out))) : w.heap.size ≤ gb268)); clear HB; have HB := n0_; have BK268 := n1_; have GW268 := n2_; have GE268 := n3_; clear n0_ n1_ n2_ n3_; clear hb hbox hg)); go_upto_region 1 with (first | ((with_reducible refine gate_dst (N := 1) rfl ?_); (try (refine gate_guard (by rfl) ?_; dsimp only)); refine box_event ?hg (N := 1) ?hd (cs := #[.int .i64 a0_0, .string a0_1, .slice A0_2 l0_2.length c0_2, .string a0_3, .string a0_4]) (t := 24) ?hr ?_; (case hd => rfl); (case hg => rfl); (case hr => first | (go_simp; done) | (go_simp; rfl)); intro gb268 hg w3 hbox hb; have n0_ := Aside0.mk (below_step (by repeat (first | (with_reducible first | exact HB.out | apply lA_ | apply lN_ | apply lD_) | exact HB.out)) hb); have n1_ := Aside0.mk (hbox); have n2_ := Aside0.mk ((by rw [hg]; exact (below_size (by repeat (first | (with_reducible first | exact HB.out | apply lA_ | apply lN_ | apply lD_) | exact HB.out))) : w.heap.size ≤ gb268)); have n3_ := Aside0.mk ((by rw [hg]; exact (below_size (by repeat (first | (with_reducible first | exact HB.out | apply lA_ | apply lN_ | apply lD_) | exact HB.out))) : w.heap.size ≤ gb268)); clear HB; have HB := n0_; have BK268 := n1_; have GW268 := n2_; have GE268 := n3_; clear n0_ n1_ n2_ n3_; clear hb hbox hg)))
 (try simp only [Act.put, List.setIfInBounds_toArray, List.set_cons_zero, List.set_cons_succ])
 go_cut [35] (fun v35 wc => ∃ (kq : Nat) (x35_1 : Bool), v35 = .bool x35_1 ∧ Aside0 (palaverref06_Right.j0 kq x35_1 a0_0 a0_1 l0_2 a0_3 a0_4 = some r) ∧ Aside0 (kq ≤ k) ∧ Aside0 (wc.heap[gb268]? = some (.cells #[.int .i64 a0_0, .string a0_1, (.slice A0_2 l0_2.length c0_2), .string a0_3, .string a0_4] 24 (0, 0))) ∧ Aside0 (Below w.heap.size w wc))
 case first =>
  have H := HC2.out
  clear HC2
  by_cases c4 : a0_0 < 1
  ·rw [if_pos c4] at H
   have c4b0 : decide (a0_0 < 1) = true := decide_eq_true c4
   clear c4
   (first | rw [c4b0] | (simp only [i64_w, i32_w]; rw [c4b0]) | skip)
   have H' := Aside0.mk H
   clear H
   obtain ⟨hcz5_0, hcz5_1, hcz5_2, hcz5_3, hcz5_4⟩ := c5_ BK268.out
   obtain ⟨hfz5_0, hfz5_1, hfz5_2, hfz5_3, hfz5_4⟩ := f5_ BK268.out
   go_wp2
   repeat (go_quiet (fail); try go_wp2)
   go_meet
   case rel => exact ⟨_, (true), (by first | rfl | (simp; done) | (simp [*]; done) | exact congrArg Value.bool (nonempty_l _) | (refine congrArg (Value.int _) ?_; first | omega | (unfold wrap64; omega))), H', ⟨by first | omega | exact Nat.le_refl _⟩, ⟨by (with_reducible repeat (first | refine bN_ ?_ _ | refine bD_ ?_ | refine bA_ ?_ _)); exact BK268.out⟩, ⟨by repeat (first | (with_reducible first | exact HB.out | apply lA_ | apply lN_ | apply lD_ | refine lS_ ?_ GE268.out) | exact HB.out)⟩⟩
  rw [if_neg c4] at H
  have c4b0 : decide (a0_0 < 1) = false := decide_eq_false c4
  clear c4
  (first | rw [c4b0] | (simp only [i64_w, i32_w]; rw [c4b0]) | skip)
  by_cases c6 : a0_0 > 5
  ·rw [if_pos c6] at H
   have c6b0 : decide (5 < a0_0) = true := decide_eq_true c6
   clear c6
   have H' := Aside0.mk H
   clear H
   obtain ⟨hcz7_0, hcz7_1, hcz7_2, hcz7_3, hcz7_4⟩ := c5_ BK268.out
   obtain ⟨hfz7_0, hfz7_1, hfz7_2, hfz7_3, hfz7_4⟩ := f5_ BK268.out
   go_wp2
   repeat (go_quiet (fail); try go_wp2)
   go_meet
   case rel => exact ⟨_, (true), (by first | rfl | (simp; done) | (simp [*]; done) | exact congrArg Value.bool (nonempty_l _) | (refine congrArg (Value.int _) ?_; first | omega | (unfold wrap64; omega))), H', ⟨by first | omega | exact Nat.le_refl _⟩, ⟨by (with_reducible repeat (first | refine bN_ ?_ _ | refine bD_ ?_ | refine bA_ ?_ _)); exact BK268.out⟩, ⟨by repeat (first | (with_reducible first | exact HB.out | apply lA_ | apply lN_ | apply lD_ | refine lS_ ?_ GE268.out) | exact HB.out)⟩⟩
  rw [if_neg c6] at H
  have c6b0 : decide (5 < a0_0) = false := decide_eq_false c6
  clear c6
  by_cases c8 : (a0_1.size : Int) = 32
  ·rw [if_pos c8] at H
   have c8b0 : ((a0_1.size : Int) == 32) = true := beq_iff_eq.mpr c8
   have c8b1 : ((a0_1.size : Int) != 32) = false := bne_eq_false_iff_eq.mpr c8
   clear c8
   by_cases c9 : (l0_2.length : Int) > 8
   ·rw [if_pos c9] at H
    have c9b0 : decide (8 < (l0_2.length : Int)) = true := decide_eq_true c9
    have c9b1 : decide (8 < l0_2.length) = true := decide_eq_true (by omega)
    clear c9
    have H' := Aside0.mk H
    clear H
    obtain ⟨hcz10_0, hcz10_1, hcz10_2, hcz10_3, hcz10_4⟩ := c5_ BK268.out
    obtain ⟨hfz10_0, hfz10_1, hfz10_2, hfz10_3, hfz10_4⟩ := f5_ BK268.out
    go_wp2
    repeat (go_quiet (fail); try go_wp2)
    go_meet
    case rel => exact ⟨_, (true), (by first | rfl | (simp; done) | (simp [*]; done) | exact congrArg Value.bool (nonempty_l _) | (refine congrArg (Value.int _) ?_; first | omega | (unfold wrap64; omega))), H', ⟨by first | omega | exact Nat.le_refl _⟩, ⟨by (with_reducible repeat (first | refine bN_ ?_ _ | refine bD_ ?_ | refine bA_ ?_ _)); exact BK268.out⟩, ⟨by repeat (first | (with_reducible first | exact HB.out | apply lA_ | apply lN_ | apply lD_ | refine lS_ ?_ GE268.out) | exact HB.out)⟩⟩
   rw [if_neg c9] at H
   have c9b0 : decide (8 < (l0_2.length : Int)) = false := decide_eq_false c9
   have c9b1 : decide (8 < l0_2.length) = false := decide_eq_false (by omega)
   clear c9
   by_cases c11 : (a0_3.size : Int) > 200
   ·rw [if_pos c11] at H
    have c11b0 : decide (200 < (a0_3.size : Int)) = true := decide_eq_true c11
    have c11b1 : decide (200 < a0_3.size) = true := decide_eq_true (by omega)
    clear c11
    have H' := Aside0.mk H
    clear H
    obtain ⟨hcz12_0, hcz12_1, hcz12_2, hcz12_3, hcz12_4⟩ := c5_ BK268.out
    obtain ⟨hfz12_0, hfz12_1, hfz12_2, hfz12_3, hfz12_4⟩ := f5_ BK268.out
    go_wp2
    repeat (go_quiet (fail); try go_wp2)
    go_meet
    case rel => exact ⟨_, (true), (by first | rfl | (simp; done) | (simp [*]; done) | exact congrArg Value.bool (nonempty_l _) | (refine congrArg (Value.int _) ?_; first | omega | (unfold wrap64; omega))), H', ⟨by first | omega | exact Nat.le_refl _⟩, ⟨by (with_reducible repeat (first | refine bN_ ?_ _ | refine bD_ ?_ | refine bA_ ?_ _)); exact BK268.out⟩, ⟨by repeat (first | (with_reducible first | exact HB.out | apply lA_ | apply lN_ | apply lD_ | refine lS_ ?_ GE268.out) | exact HB.out)⟩⟩
   rw [if_neg c11] at H
   have c11b0 : decide (200 < (a0_3.size : Int)) = false := decide_eq_false c11
   have c11b1 : decide (200 < a0_3.size) = false := decide_eq_false (by omega)
   clear c11
   have H' := Aside0.mk H
   clear H
   obtain ⟨hcz13_0, hcz13_1, hcz13_2, hcz13_3, hcz13_4⟩ := c5_ BK268.out
   obtain ⟨hfz13_0, hfz13_1, hfz13_2, hfz13_3, hfz13_4⟩ := f5_ BK268.out
   go_wp2
   repeat (go_quiet (fail); try go_wp2)
   go_meet
   case rel => exact ⟨_, (decide ((a0_4.size : Int) > 65535)), (by first | rfl | (simp; done) | (simp [*]; done) | exact congrArg Value.bool (nonempty_l _) | (refine congrArg (Value.int _) ?_; first | omega | (unfold wrap64; omega))), H', ⟨by first | omega | exact Nat.le_refl _⟩, ⟨by (with_reducible repeat (first | refine bN_ ?_ _ | refine bD_ ?_ | refine bA_ ?_ _)); exact BK268.out⟩, ⟨by repeat (first | (with_reducible first | exact HB.out | apply lA_ | apply lN_ | apply lD_ | refine lS_ ?_ GE268.out) | exact HB.out)⟩⟩
  rw [if_neg c8] at H
  have c8b0 : ((a0_1.size : Int) == 32) = false := beq_eq_false_iff_ne.mpr c8
  have c8b1 : ((a0_1.size : Int) != 32) = true := bne_iff_ne.mpr c8
  have H' := Aside0.mk H
  clear H
  obtain ⟨hcz14_0, hcz14_1, hcz14_2, hcz14_3, hcz14_4⟩ := c5_ BK268.out
  obtain ⟨hfz14_0, hfz14_1, hfz14_2, hfz14_3, hfz14_4⟩ := f5_ BK268.out
  go_wp2
  repeat (go_quiet (fail); try go_wp2)
  go_meet
  case rel => exact ⟨_, (true), (by first | rfl | (simp; done) | (simp [*]; done) | exact congrArg Value.bool (nonempty_l _) | (refine congrArg (Value.int _) ?_; first | omega | (unfold wrap64; omega))), H', ⟨by first | omega | exact Nat.le_refl _⟩, ⟨by (with_reducible repeat (first | refine bN_ ?_ _ | refine bD_ ?_ | refine bA_ ?_ _)); exact BK268.out⟩, ⟨by repeat (first | (with_reducible first | exact HB.out | apply lA_ | apply lN_ | apply lD_ | refine lS_ ?_ GE268.out) | exact HB.out)⟩⟩
 case rest =>
  clear HC2
  (try clear c1); (try clear p2); (try clear c4); (try clear c4b0); (try clear c6); (try clear c6b0); (try clear p6); (try clear c8); (try clear c8b0); (try clear c8b1); (try clear c9); (try clear c9b0); (try clear c9b1); (try clear c11); (try clear c11b0); (try clear c11b1); (try clear c14); (try clear hcz10_0); (try clear hcz10_1); (try clear hcz10_2); (try clear hcz10_3); (try clear hcz10_4); (try clear hcz12_0); (try clear hcz12_1); (try clear hcz12_2); (try clear hcz12_3); (try clear hcz12_4); (try clear hcz13_0); (try clear hcz13_1); (try clear hcz13_2); (try clear hcz13_3); (try clear hcz13_4); (try clear hcz14_0); (try clear hcz14_1); (try clear hcz14_2); (try clear hcz14_3); (try clear hcz14_4); (try clear hcz5_0); (try clear hcz5_1); (try clear hcz5_2); (try clear hcz5_3); (try clear hcz5_4); (try clear hcz7_0); (try clear hcz7_1); (try clear hcz7_2); (try clear hcz7_3); (try clear hcz7_4); (try clear hfz10_0); (try clear hfz10_1); (try clear hfz10_2); (try clear hfz10_3); (try clear hfz10_4); (try clear hfz12_0); (try clear hfz12_1); (try clear hfz12_2); (try clear hfz12_3); (try clear hfz12_4); (try clear hfz13_0); (try clear hfz13_1); (try clear hfz13_2); (try clear hfz13_3); (try clear hfz13_4); (try clear hfz14_0); (try clear hfz14_1); (try clear hfz14_2); (try clear hfz14_3); (try clear hfz14_4); (try clear hfz5_0); (try clear hfz5_1); (try clear hfz5_2); (try clear hfz5_3); (try clear hfz5_4); (try clear hfz7_0); (try clear hfz7_1); (try clear hfz7_2); (try clear hfz7_3); (try clear hfz7_4)
  obtain ⟨kq, x35_1, rfl, HA, HJ1, BK268, HB⟩ := hcut
  cases kq with
  | zero => exact absurd HA.out (by simp [palaverref06_Right.j0])
  | succ kj1 =>
   have H := HA.out
   clear HA
   simp only [palaverref06_Right.j0] at H
   by_cases c15 : x35_1 = true
   ·subst c15
    have H1 : (some false) = some r := by rw [if_pos rfl] at H; exact H
    clear H
    have H := H1
    clear H1
    obtain rfl := Option.some.inj H
    go_wp2
    repeat (go_quiet (fail); try go_wp2)
    go_ret
    exact ⟨by first | rfl | (simp [errW_none, errW_some] <;> rfl) | (simp [*, errW_none, errW_some] <;> rfl), by repeat (first | (with_reducible first | exact HB.out | apply lA_ | apply lN_ | apply lD_ | refine lS_ ?_ GE268.out) | exact HB.out)⟩
   replace c15 := Bool.eq_false_iff.mpr c15
   subst c15
   have H1 : (if ((a0_0 == 1) != ((l0_2.length : Int) == 0)) = true then (palaverref06_Right.j1 kj1 true a0_0 a0_1 l0_2 a0_3 a0_4) else (if a0_0 = 4 then (palaverref06_Right.j1 kj1 ((a0_3.size : Int) != 32) a0_0 a0_1 l0_2 a0_3 a0_4) else (if a0_0 = 5 then (palaverref06_Right.j1 kj1 ((a0_3.size : Int) != 32) a0_0 a0_1 l0_2 a0_3 a0_4) else (palaverref06_Right.j1 kj1 false a0_0 a0_1 l0_2 a0_3 a0_4)))) = some r := by rw [if_neg (show ¬ (false = true) by decide)] at H; exact H
   clear H
   have H := H1
   clear H1
   have HC16 := Aside0.mk H
   clear H
   go_upto_region 3 with (fail)
   repeat (go_quiet (fail); go_upto_region 3 with (fail))
   go_cut [59] (fun v59 wc => ∃ (kq : Nat) (x59_15 : Bool), v59 = .bool x59_15 ∧ Aside0 (palaverref06_Right.j1 kq x59_15 a0_0 a0_1 l0_2 a0_3 a0_4 = some r) ∧ Aside0 (kq ≤ kj1) ∧ Aside0 (wc.heap[gb268]? = some (.cells #[.int .i64 a0_0, .string a0_1, (.slice A0_2 l0_2.length c0_2), .string a0_3, .string a0_4] 24 (0, 0))) ∧ Aside0 (Below w.heap.size w wc))
   case first =>
    have H := HC16.out
    clear HC16
    by_cases c17 : ((a0_0 == 1) != ((l0_2.length : Int) == 0)) = true
    ·rw [if_pos c17] at H
     have c17b0 : ((a0_0 == 1) != ((l0_2.length : Int) == 0)) = true := c17
     (try (have c17b1 : decide ((a0_0 == 1) = ((l0_2.length : Int) == 0)) = false := by simpa using c17))
     (try (have c17b2 : ((a0_0 == 1) == ((l0_2.length : Int) == 0)) = false := by simpa using c17))
     (try (have c17b3 : ¬ ((a0_0 == 1) = ((l0_2.length : Int) == 0)) := by simpa using c17))
     clear c17
     (first | rw [c17b0] | (simp only [i64_w, i32_w]; rw [c17b0]) | skip)
     have H' := Aside0.mk H
     clear H
     obtain ⟨hcz18_0, hcz18_1, hcz18_2, hcz18_3, hcz18_4⟩ := c5_ BK268.out
     obtain ⟨hfz18_0, hfz18_1, hfz18_2, hfz18_3, hfz18_4⟩ := f5_ BK268.out
     go_wp2
     repeat (go_quiet (fail); try go_wp2)
     go_meet
     case rel => exact ⟨_, (true), (by first | rfl | (simp; done) | (simp [*]; done) | exact congrArg Value.bool (nonempty_l _) | (refine congrArg (Value.int _) ?_; first | omega | (unfold wrap64; omega))), H', ⟨by have := HJ1.out; first | omega | exact Nat.le_refl _⟩, ⟨by (with_reducible repeat (first | refine bN_ ?_ _ | refine bD_ ?_ | refine bA_ ?_ _)); exact BK268.out⟩, ⟨by repeat (first | (with_reducible first | exact HB.out | apply lA_ | apply lN_ | apply lD_ | refine lS_ ?_ GE268.out) | exact HB.out)⟩⟩
    rw [if_neg c17] at H
    have c17b0 : ((a0_0 == 1) != ((l0_2.length : Int) == 0)) = false := by simpa using c17
    (try (have c17b1 : decide ((a0_0 == 1) = ((l0_2.length : Int) == 0)) = true := by simpa using c17))
    (try (have c17b2 : ((a0_0 == 1) == ((l0_2.length : Int) == 0)) = true := by simpa using c17))
    clear c17
    (first | rw [c17b0] | (simp only [i64_w, i32_w]; rw [c17b0]) | skip)
    by_cases c19 : a0_0 = 4
    ·rw [if_pos c19] at H
     have c19b0 : (a0_0 == 4) = true := beq_iff_eq.mpr c19
     have c19b1 : (a0_0 != 4) = false := bne_eq_false_iff_eq.mpr c19
     clear c19
     have H' := Aside0.mk H
     clear H
     obtain ⟨hcz20_0, hcz20_1, hcz20_2, hcz20_3, hcz20_4⟩ := c5_ BK268.out
     obtain ⟨hfz20_0, hfz20_1, hfz20_2, hfz20_3, hfz20_4⟩ := f5_ BK268.out
     go_wp2
     repeat (go_quiet (fail); try go_wp2)
     go_meet
     case rel => exact ⟨_, (((a0_3.size : Int) != 32)), (by first | rfl | (simp; done) | (simp [*]; done) | exact congrArg Value.bool (nonempty_l _) | (refine congrArg (Value.int _) ?_; first | omega | (unfold wrap64; omega))), H', ⟨by have := HJ1.out; first | omega | exact Nat.le_refl _⟩, ⟨by (with_reducible repeat (first | refine bN_ ?_ _ | refine bD_ ?_ | refine bA_ ?_ _)); exact BK268.out⟩, ⟨by repeat (first | (with_reducible first | exact HB.out | apply lA_ | apply lN_ | apply lD_ | refine lS_ ?_ GE268.out) | exact HB.out)⟩⟩
    rw [if_neg c19] at H
    have c19b0 : (a0_0 == 4) = false := beq_eq_false_iff_ne.mpr c19
    have c19b1 : (a0_0 != 4) = true := bne_iff_ne.mpr c19
    by_cases c21 : a0_0 = 5
    ·rw [if_pos c21] at H
     have c21b0 : (a0_0 == 5) = true := beq_iff_eq.mpr c21
     have c21b1 : (a0_0 != 5) = false := bne_eq_false_iff_eq.mpr c21
     clear c21
     have H' := Aside0.mk H
     clear H
     obtain ⟨hcz22_0, hcz22_1, hcz22_2, hcz22_3, hcz22_4⟩ := c5_ BK268.out
     obtain ⟨hfz22_0, hfz22_1, hfz22_2, hfz22_3, hfz22_4⟩ := f5_ BK268.out
     go_wp2
     repeat (go_quiet (fail); try go_wp2)
     go_meet
     case rel => exact ⟨_, (((a0_3.size : Int) != 32)), (by first | rfl | (simp; done) | (simp [*]; done) | exact congrArg Value.bool (nonempty_l _) | (refine congrArg (Value.int _) ?_; first | omega | (unfold wrap64; omega))), H', ⟨by have := HJ1.out; first | omega | exact Nat.le_refl _⟩, ⟨by (with_reducible repeat (first | refine bN_ ?_ _ | refine bD_ ?_ | refine bA_ ?_ _)); exact BK268.out⟩, ⟨by repeat (first | (with_reducible first | exact HB.out | apply lA_ | apply lN_ | apply lD_ | refine lS_ ?_ GE268.out) | exact HB.out)⟩⟩
    rw [if_neg c21] at H
    have c21b0 : (a0_0 == 5) = false := beq_eq_false_iff_ne.mpr c21
    have c21b1 : (a0_0 != 5) = true := bne_iff_ne.mpr c21
    have H' := Aside0.mk H
    clear H
    obtain ⟨hcz23_0, hcz23_1, hcz23_2, hcz23_3, hcz23_4⟩ := c5_ BK268.out
    obtain ⟨hfz23_0, hfz23_1, hfz23_2, hfz23_3, hfz23_4⟩ := f5_ BK268.out
    go_wp2
    repeat (go_quiet (fail); try go_wp2)
    go_meet
    case rel => exact ⟨_, (false), (by first | rfl | (simp; done) | (simp [*]; done) | exact congrArg Value.bool (nonempty_l _) | (refine congrArg (Value.int _) ?_; first | omega | (unfold wrap64; omega))), H', ⟨by have := HJ1.out; first | omega | exact Nat.le_refl _⟩, ⟨by (with_reducible repeat (first | refine bN_ ?_ _ | refine bD_ ?_ | refine bA_ ?_ _)); exact BK268.out⟩, ⟨by repeat (first | (with_reducible first | exact HB.out | apply lA_ | apply lN_ | apply lD_ | refine lS_ ?_ GE268.out) | exact HB.out)⟩⟩
   case rest =>
    clear HC16
    (try clear c1); (try clear c2); (try clear p2); (try clear c4); (try clear c4b0); (try clear c6); (try clear c6b0); (try clear p6); (try clear c8); (try clear c8b0); (try clear c8b1); (try clear c9); (try clear c9b0); (try clear c9b1); (try clear c11); (try clear c11b0); (try clear c11b1); (try clear c14); (try clear c15); (try clear c17); (try clear c17b0); (try clear c17b1); (try clear c17b2); (try clear c19); (try clear c19b0); (try clear c19b1); (try clear c21); (try clear c21b0); (try clear c21b1); (try clear hcz10_0); (try clear hcz10_1); (try clear hcz10_2); (try clear hcz10_3); (try clear hcz10_4); (try clear hcz12_0); (try clear hcz12_1); (try clear hcz12_2); (try clear hcz12_3); (try clear hcz12_4); (try clear hcz13_0); (try clear hcz13_1); (try clear hcz13_2); (try clear hcz13_3); (try clear hcz13_4); (try clear hcz14_0); (try clear hcz14_1); (try clear hcz14_2); (try clear hcz14_3); (try clear hcz14_4); (try clear hcz18_0); (try clear hcz18_1); (try clear hcz18_2); (try clear hcz18_3); (try clear hcz18_4); (try clear hcz20_0); (try clear hcz20_1); (try clear hcz20_2); (try clear hcz20_3); (try clear hcz20_4); (try clear hcz22_0); (try clear hcz22_1); (try clear hcz22_2); (try clear hcz22_3); (try clear hcz22_4); (try clear hcz23_0); (try clear hcz23_1); (try clear hcz23_2); (try clear hcz23_3); (try clear hcz23_4); (try clear hcz5_0); (try clear hcz5_1); (try clear hcz5_2); (try clear hcz5_3); (try clear hcz5_4); (try clear hcz7_0); (try clear hcz7_1); (try clear hcz7_2); (try clear hcz7_3); (try clear hcz7_4); (try clear hfz10_0); (try clear hfz10_1); (try clear hfz10_2); (try clear hfz10_3); (try clear hfz10_4); (try clear hfz12_0); (try clear hfz12_1); (try clear hfz12_2); (try clear hfz12_3); (try clear hfz12_4); (try clear hfz13_0); (try clear hfz13_1); (try clear hfz13_2); (try clear hfz13_3); (try clear hfz13_4); (try clear hfz14_0); (try clear hfz14_1); (try clear hfz14_2); (try clear hfz14_3); (try clear hfz14_4); (try clear hfz18_0); (try clear hfz18_1); (try clear hfz18_2); (try clear hfz18_3); (try clear hfz18_4); (try clear hfz20_0); (try clear hfz20_1); (try clear hfz20_2); (try clear hfz20_3); (try clear hfz20_4); (try clear hfz22_0); (try clear hfz22_1); (try clear hfz22_2); (try clear hfz22_3); (try clear hfz22_4); (try clear hfz23_0); (try clear hfz23_1); (try clear hfz23_2); (try clear hfz23_3); (try clear hfz23_4); (try clear hfz5_0); (try clear hfz5_1); (try clear hfz5_2); (try clear hfz5_3); (try clear hfz5_4); (try clear hfz7_0); (try clear hfz7_1); (try clear hfz7_2); (try clear hfz7_3); (try clear hfz7_4); (try clear p2); (try clear p6)
    obtain ⟨kq, x59_15, rfl, HA, HJ15, BK268, HB⟩ := hcut
    cases kq with
    | zero => exact absurd HA.out (by simp [palaverref06_Right.j1])
    | succ kj15 =>
     have H := HA.out
     clear HA
     simp only [palaverref06_Right.j1] at H
     by_cases c24 : x59_15 = true
     ·subst c24
      have H1 : (some false) = some r := by rw [if_pos rfl] at H; exact H
      clear H
      have H := H1
      clear H1
      obtain rfl := Option.some.inj H
      go_wp2
      repeat (go_quiet (fail); try go_wp2)
      go_ret
      exact ⟨by first | rfl | (simp [errW_none, errW_some] <;> rfl) | (simp [*, errW_none, errW_some] <;> rfl), by repeat (first | (with_reducible first | exact HB.out | apply lA_ | apply lN_ | apply lD_ | refine lS_ ?_ GE268.out) | exact HB.out)⟩
     replace c24 := Bool.eq_false_iff.mpr c24
     subst c24
     have H1 : (palaverref06_Right.l0 kj15 0 a0_0 a0_1 l0_2 a0_3 a0_4) = some r := by rw [if_neg (show ¬ (false = true) by decide)] at H; exact H
     clear H
     have H := H1
     clear H1
     have H' := Aside0.mk H
     clear H
     go_wp2
     repeat (go_quiet (fail); try go_wp2)
     go_loopg [3] kj15 (fun kq v3 w' => ∃ (x3_3 : Int), v3 = .int .i64 x3_3 ∧ Aside0 (palaverref06_Right.l0 kq x3_3 a0_0 a0_1 l0_2 a0_3 a0_4 = some r) ∧ Aside0 (kq ≤ kj15) ∧ Aside0 (w'.heap[gb268]? = some (.cells #[.int .i64 a0_0, .string a0_1, (.slice A0_2 l0_2.length c0_2), .string a0_3, .string a0_4] 24 (0, 0))) ∧ Aside0 (Below w.heap.size w w'))
     case atStart => exact ⟨(0), (by first | rfl | (simp; done) | (simp [*]; done) | exact congrArg Value.bool (nonempty_l _) | (refine congrArg (Value.int _) ?_; first | omega | (unfold wrap64; omega))), H', ⟨Nat.le_refl _⟩, ⟨by (with_reducible repeat (first | refine bN_ ?_ _ | refine bD_ ?_ | refine bA_ ?_ _)); exact BK268.out⟩, ⟨by repeat (first | (with_reducible first | exact HB.out | apply lA_ | apply lN_ | apply lD_ | refine lS_ ?_ GE268.out) | exact HB.out)⟩⟩
     case round =>
      clear H'
      (try clear c1); (try clear c2); (try clear p2); (try clear c4); (try clear c4b0); (try clear c6); (try clear c6b0); (try clear p6); (try clear c8); (try clear c8b0); (try clear c8b1); (try clear c9); (try clear c9b0); (try clear c9b1); (try clear c11); (try clear c11b0); (try clear c11b1); (try clear c14); (try clear c15); (try clear c17); (try clear c17b0); (try clear c17b1); (try clear c17b2); (try clear c19); (try clear c19b0); (try clear c19b1); (try clear c21); (try clear c21b0); (try clear c21b1); (try clear c24); (try clear hcz10_0); (try clear hcz10_1); (try clear hcz10_2); (try clear hcz10_3); (try clear hcz10_4); (try clear hcz12_0); (try clear hcz12_1); (try clear hcz12_2); (try clear hcz12_3); (try clear hcz12_4); (try clear hcz13_0); (try clear hcz13_1); (try clear hcz13_2); (try clear hcz13_3); (try clear hcz13_4); (try clear hcz14_0); (try clear hcz14_1); (try clear hcz14_2); (try clear hcz14_3); (try clear hcz14_4); (try clear hcz18_0); (try clear hcz18_1); (try clear hcz18_2); (try clear hcz18_3); (try clear hcz18_4); (try clear hcz20_0); (try clear hcz20_1); (try clear hcz20_2); (try clear hcz20_3); (try clear hcz20_4); (try clear hcz22_0); (try clear hcz22_1); (try clear hcz22_2); (try clear hcz22_3); (try clear hcz22_4); (try clear hcz23_0); (try clear hcz23_1); (try clear hcz23_2); (try clear hcz23_3); (try clear hcz23_4); (try clear hcz5_0); (try clear hcz5_1); (try clear hcz5_2); (try clear hcz5_3); (try clear hcz5_4); (try clear hcz7_0); (try clear hcz7_1); (try clear hcz7_2); (try clear hcz7_3); (try clear hcz7_4); (try clear hfz10_0); (try clear hfz10_1); (try clear hfz10_2); (try clear hfz10_3); (try clear hfz10_4); (try clear hfz12_0); (try clear hfz12_1); (try clear hfz12_2); (try clear hfz12_3); (try clear hfz12_4); (try clear hfz13_0); (try clear hfz13_1); (try clear hfz13_2); (try clear hfz13_3); (try clear hfz13_4); (try clear hfz14_0); (try clear hfz14_1); (try clear hfz14_2); (try clear hfz14_3); (try clear hfz14_4); (try clear hfz18_0); (try clear hfz18_1); (try clear hfz18_2); (try clear hfz18_3); (try clear hfz18_4); (try clear hfz20_0); (try clear hfz20_1); (try clear hfz20_2); (try clear hfz20_3); (try clear hfz20_4); (try clear hfz22_0); (try clear hfz22_1); (try clear hfz22_2); (try clear hfz22_3); (try clear hfz22_4); (try clear hfz23_0); (try clear hfz23_1); (try clear hfz23_2); (try clear hfz23_3); (try clear hfz23_4); (try clear hfz5_0); (try clear hfz5_1); (try clear hfz5_2); (try clear hfz5_3); (try clear hfz5_4); (try clear hfz7_0); (try clear hfz7_1); (try clear hfz7_2); (try clear hfz7_3); (try clear hfz7_4); (try clear p2); (try clear p6)
      obtain ⟨x3_3, rfl, HA, HK3, BK268, HB⟩ := hrel
      cases gk with
      | zero => exact absurd HA.out (by simp [palaverref06_Right.l0])
      | succ k3 =>
       have H := HA.out
       clear HA
       simp only [palaverref06_Right.l0] at H
       by_cases c25 : x3_3 < (l0_2.length : Int)
       ·rw [if_pos c25] at H
        have c25b0 : decide (x3_3 < (l0_2.length : Int)) = true := decide_eq_true c25
        clear c25
        by_cases c26 : 0 ≤ x3_3
        rotate_left
        ·rw [if_neg c26] at H
         exact absurd H (by simp)
        rw [if_pos c26] at H
        have c26b0 : decide (0 ≤ x3_3) = true := decide_eq_true c26
        clear c26
        by_cases c27 : ((rdOf ByteArray.empty l0_2 x3_3).size : Int) = 32
        ·rw [if_pos c27] at H
         have c27b0 : (((rdOf ByteArray.empty l0_2 x3_3).size : Int) == 32) = true := beq_iff_eq.mpr c27
         have c27b1 : (((rdOf ByteArray.empty l0_2 x3_3).size : Int) != 32) = false := bne_eq_false_iff_eq.mpr c27
         clear c27
         by_cases c28 : x3_3 > 0
         ·rw [if_pos c28] at H
          have c28b0 : decide (0 < x3_3) = true := decide_eq_true c28
          clear c28
          obtain ⟨ji29, hji29⟩ : ∃ j_ : Int, (wrap64 (x3_3 - 1)) = j_ := ⟨_, rfl⟩
          replace H : (if 0 ≤ (ji29) then (if (ji29) < (l0_2.length : Int) then (if ((Op.bytesLess ((rdOf ByteArray.empty l0_2 (ji29)).toList) ((rdOf ByteArray.empty l0_2 x3_3).toList)) = true) then (palaverref06_Right.l0 k3 (wrap64 (x3_3 + 1)) a0_0 a0_1 l0_2 a0_3 a0_4) else (some false)) else (none)) else (none)) = some r := by first | (rw [hji29] at H; exact H) | (simp only [hji29] at H ⊢; exact H)
          have hji29w : (IntKind.i64.wrap (x3_3 - 1)) = ji29 := (i64_w _).trans hji29
          by_cases c30 : 0 ≤ (ji29)
          rotate_left
          ·rw [if_neg c30] at H
           exact absurd H (by simp)
          rw [if_pos c30] at H
          have c30b0 : decide (0 ≤ (ji29)) = true := decide_eq_true c30
          clear c30
          by_cases c31 : (ji29) < (l0_2.length : Int)
          rotate_left
          ·rw [if_neg c31] at H
           exact absurd H (by simp)
          rw [if_pos c31] at H
          have c31b0 : decide ((ji29) < (l0_2.length : Int)) = true := decide_eq_true c31
          clear c31
          by_cases c32 : ((Op.bytesLess ((rdOf ByteArray.empty l0_2 (ji29)).toList) ((rdOf ByteArray.empty l0_2 x3_3).toList)) = true)
          ·rw [if_pos c32] at H
           have c32b0 : (Op.bytesLess ((rdOf ByteArray.empty l0_2 (ji29)).toList) ((rdOf ByteArray.empty l0_2 x3_3).toList)) = true := c32
           clear c32
           have H' := Aside0.mk H
           clear H
           obtain ⟨hcz33_0, hcz33_1, hcz33_2, hcz33_3, hcz33_4⟩ := c5_ BK268.out
           obtain ⟨hfz33_0, hfz33_1, hfz33_2, hfz33_3, hfz33_4⟩ := f5_ BK268.out
           have p269 : 0 ≤ (x3_3 : Int) := od_ (by first | (with_reducible assumption) | assumption)
           have q269 : x3_3 < (l0_2.length : Int) := od_ (by first | (with_reducible assumption) | assumption)
           obtain ⟨ad269, e269, hx269_0⟩ := Kd.at_string HR0_2.out x3_3 p269 q269
           cases e269
           replace hx269_0 := (HB.out.cell (World.block_lt_of_cell? w _ hx269_0)).trans hx269_0
           replace p269 := eq_true p269
           replace q269 := eq_true q269
           have p270 : 0 ≤ (x3_3 : Int) := od_ (by first | (with_reducible assumption) | assumption)
           have q270 : x3_3 < (l0_2.length : Int) := od_ (by first | (with_reducible assumption) | assumption)
           obtain ⟨ad270, e270, hx270_0⟩ := Kd.at_string HR0_2.out x3_3 p270 q270
           obtain rfl : ad269 = ad270 := (by injection e270)
           replace hx270_0 := (HB.out.cell (World.block_lt_of_cell? w _ hx270_0)).trans hx270_0
           replace p270 := eq_true p270
           replace q270 := eq_true q270
           have p271 : 0 ≤ ((ji29) : Int) := od_ (by first | (with_reducible assumption) | assumption)
           have q271 : (ji29) < (l0_2.length : Int) := od_ (by first | (with_reducible assumption) | assumption)
           obtain ⟨ad271, e271, hx271_0⟩ := Kd.at_string HR0_2.out (ji29) p271 q271
           obtain rfl : ad269 = ad271 := (by injection e271)
           replace hx271_0 := (HB.out.cell (World.block_lt_of_cell? w _ hx271_0)).trans hx271_0
           replace p271 := eq_true p271
           replace q271 := eq_true q271
           go_wp2
           repeat (go_quiet (fail); try go_wp2)
           go_roundg k3
           case measure => have := HJ1.out; have := HJ15.out; have := HK3.out; omega
           case rel => exact ⟨(wrap64 (x3_3 + 1)), (by first | rfl | (simp; done) | (simp [*]; done) | exact congrArg Value.bool (nonempty_l _) | (refine congrArg (Value.int _) ?_; first | omega | (unfold wrap64; omega))), H', ⟨by have := HJ1.out; have := HJ15.out; have := HK3.out; omega⟩, ⟨by (with_reducible repeat (first | refine bN_ ?_ _ | refine bD_ ?_ | refine bA_ ?_ _)); exact BK268.out⟩, ⟨by repeat (first | (with_reducible first | exact HB.out | apply lA_ | apply lN_ | apply lD_ | refine lS_ ?_ GE268.out) | exact HB.out)⟩⟩
          rw [if_neg c32] at H
          have c32b0 : (Op.bytesLess ((rdOf ByteArray.empty l0_2 (ji29)).toList) ((rdOf ByteArray.empty l0_2 x3_3).toList)) = false := by simpa using c32
          clear c32
          obtain rfl := Option.some.inj H
          obtain ⟨hcz34_0, hcz34_1, hcz34_2, hcz34_3, hcz34_4⟩ := c5_ BK268.out
          obtain ⟨hfz34_0, hfz34_1, hfz34_2, hfz34_3, hfz34_4⟩ := f5_ BK268.out
          have p269 : 0 ≤ (x3_3 : Int) := od_ (by first | (with_reducible assumption) | assumption)
          have q269 : x3_3 < (l0_2.length : Int) := od_ (by first | (with_reducible assumption) | assumption)
          obtain ⟨ad269, e269, hx269_0⟩ := Kd.at_string HR0_2.out x3_3 p269 q269
          cases e269
          replace hx269_0 := (HB.out.cell (World.block_lt_of_cell? w _ hx269_0)).trans hx269_0
          replace p269 := eq_true p269
          replace q269 := eq_true q269
          have p270 : 0 ≤ (x3_3 : Int) := od_ (by first | (with_reducible assumption) | assumption)
          have q270 : x3_3 < (l0_2.length : Int) := od_ (by first | (with_reducible assumption) | assumption)
          obtain ⟨ad270, e270, hx270_0⟩ := Kd.at_string HR0_2.out x3_3 p270 q270
          obtain rfl : ad269 = ad270 := (by injection e270)
          replace hx270_0 := (HB.out.cell (World.block_lt_of_cell? w _ hx270_0)).trans hx270_0
          replace p270 := eq_true p270
          replace q270 := eq_true q270
          have p271 : 0 ≤ ((ji29) : Int) := od_ (by first | (with_reducible assumption) | assumption)
          have q271 : (ji29) < (l0_2.length : Int) := od_ (by first | (with_reducible assumption) | assumption)
          obtain ⟨ad271, e271, hx271_0⟩ := Kd.at_string HR0_2.out (ji29) p271 q271
          obtain rfl : ad269 = ad271 := (by injection e271)
          replace hx271_0 := (HB.out.cell (World.block_lt_of_cell? w _ hx271_0)).trans hx271_0
          replace p271 := eq_true p271
          replace q271 := eq_true q271
          go_wp2
          repeat (go_quiet (fail); try go_wp2)
          go_ret
          exact ⟨by first | rfl | (simp [errW_none, errW_some] <;> rfl) | (simp only [← hji29]; first | rfl | (simp [errW_none, errW_some] <;> rfl)) | (simp [*, errW_none, errW_some] <;> rfl), by repeat (first | (with_reducible first | exact HB.out | apply lA_ | apply lN_ | apply lD_ | refine lS_ ?_ GE268.out) | exact HB.out)⟩
         rw [if_neg c28] at H
         have c28b0 : decide (0 < x3_3) = false := decide_eq_false c28
         clear c28
         have H' := Aside0.mk H
         clear H
         obtain ⟨hcz35_0, hcz35_1, hcz35_2, hcz35_3, hcz35_4⟩ := c5_ BK268.out
         obtain ⟨hfz35_0, hfz35_1, hfz35_2, hfz35_3, hfz35_4⟩ := f5_ BK268.out
         have p269 : 0 ≤ (x3_3 : Int) := od_ (by first | (with_reducible assumption) | assumption)
         have q269 : x3_3 < (l0_2.length : Int) := od_ (by first | (with_reducible assumption) | assumption)
         obtain ⟨ad269, e269, hx269_0⟩ := Kd.at_string HR0_2.out x3_3 p269 q269
         cases e269
         replace hx269_0 := (HB.out.cell (World.block_lt_of_cell? w _ hx269_0)).trans hx269_0
         replace p269 := eq_true p269
         replace q269 := eq_true q269
         go_wp2
         repeat (go_quiet (fail); try go_wp2)
         go_roundg k3
         case measure => have := HJ1.out; have := HJ15.out; have := HK3.out; omega
         case rel => exact ⟨(wrap64 (x3_3 + 1)), (by first | rfl | (simp; done) | (simp [*]; done) | exact congrArg Value.bool (nonempty_l _) | (refine congrArg (Value.int _) ?_; first | omega | (unfold wrap64; omega))), H', ⟨by have := HJ1.out; have := HJ15.out; have := HK3.out; omega⟩, ⟨by (with_reducible repeat (first | refine bN_ ?_ _ | refine bD_ ?_ | refine bA_ ?_ _)); exact BK268.out⟩, ⟨by repeat (first | (with_reducible first | exact HB.out | apply lA_ | apply lN_ | apply lD_ | refine lS_ ?_ GE268.out) | exact HB.out)⟩⟩
        rw [if_neg c27] at H
        have c27b0 : (((rdOf ByteArray.empty l0_2 x3_3).size : Int) == 32) = false := beq_eq_false_iff_ne.mpr c27
        have c27b1 : (((rdOf ByteArray.empty l0_2 x3_3).size : Int) != 32) = true := bne_iff_ne.mpr c27
        obtain rfl := Option.some.inj H
        obtain ⟨hcz36_0, hcz36_1, hcz36_2, hcz36_3, hcz36_4⟩ := c5_ BK268.out
        obtain ⟨hfz36_0, hfz36_1, hfz36_2, hfz36_3, hfz36_4⟩ := f5_ BK268.out
        have p269 : 0 ≤ (x3_3 : Int) := od_ (by first | (with_reducible assumption) | assumption)
        have q269 : x3_3 < (l0_2.length : Int) := od_ (by first | (with_reducible assumption) | assumption)
        obtain ⟨ad269, e269, hx269_0⟩ := Kd.at_string HR0_2.out x3_3 p269 q269
        cases e269
        replace hx269_0 := (HB.out.cell (World.block_lt_of_cell? w _ hx269_0)).trans hx269_0
        replace p269 := eq_true p269
        replace q269 := eq_true q269
        go_wp2
        repeat (go_quiet (fail); try go_wp2)
        go_ret
        exact ⟨by first | rfl | (simp [errW_none, errW_some] <;> rfl) | (simp [*, errW_none, errW_some] <;> rfl), by repeat (first | (with_reducible first | exact HB.out | apply lA_ | apply lN_ | apply lD_ | refine lS_ ?_ GE268.out) | exact HB.out)⟩
       rw [if_neg c25] at H
       have c25b0 : decide (x3_3 < (l0_2.length : Int)) = false := decide_eq_false c25
       clear c25
       obtain rfl := Option.some.inj H
       obtain ⟨hcz37_0, hcz37_1, hcz37_2, hcz37_3, hcz37_4⟩ := c5_ BK268.out
       obtain ⟨hfz37_0, hfz37_1, hfz37_2, hfz37_3, hfz37_4⟩ := f5_ BK268.out
       go_wp2
       repeat (go_quiet (fail); try go_wp2)
       go_ret
       exact ⟨by first | rfl | (simp [errW_none, errW_some] <;> rfl) | (simp [*, errW_none, errW_some] <;> rfl), by repeat (first | (with_reducible first | exact HB.out | apply lA_ | apply lN_ | apply lD_ | refine lS_ ?_ GE268.out) | exact HB.out)⟩

/-! ### palaverref01_Text: function 28 -/
def palaverref01_Text.f (k : Nat) (a0 : ByteArray) : Option (ByteArray × Bool) := (palaverref01_Number.f k (a0.size : Int) 2).bind fun bt272 => (if bt272.2 = true then (if bt272.1.size + a0.size ≤ 9223372036854775807 then (some (bt272.1 ++ a0, true)) else (none)) else (some ((⟨#[]⟩ : ByteArray), false)))
theorem palaverref01_Text.mono : ∀ a0 k, LeO (palaverref01_Text.f k a0) (palaverref01_Text.f (k + 1) a0) := by
 intro a0 k
 unfold palaverref01_Text.f
 repeat' first
  | (with_reducible exact palaverref01_Number.mono _ _ _)
  | (with_reducible exact LeO.refl _)
  | (with_reducible exact LeO.none _)
  | (with_reducible refine LeO.ite ?_ ?_)
  | (with_reducible refine LeO.bind ?_ (fun _ => ?_))
  | exact palaverref01_Number.mono _ _ _
  | exact LeO.none _
  | refine LeO.ite ?_ ?_
  | refine LeO.bind ?_ (fun _ => ?_)
set_option maxHeartbeats 64000000 in
set_option maxRecDepth 100000 in
theorem palaverref01_Text.calls (k : Nat) (a0 : ByteArray) (r1 : ByteArray) (r2 : Bool) (w : World) (h : palaverref01_Text.f k a0 = some (r1, r2)) :
 Calls Tryd.prog 28 #[.string a0] w fun e w' => e = .returned (.tuple #[.string r1, .bool r2]) ∧ Below w.heap.size w w' := by
 have HB := Aside0.mk (Below.refl w.heap.size w)
 have H : ((palaverref01_Number.f k (a0.size : Int) 2).bind fun bt272 => (if bt272.2 = true then (if bt272.1.size + a0.size ≤ 9223372036854775807 then (some (bt272.1 ++ a0, true)) else (none)) else (some ((⟨#[]⟩ : ByteArray), false)))) = some (r1, r2) := h
 clear h
 replace H := ob_ H
 obtain ⟨⟨t272, t273⟩, A20, H⟩ := H
 replace H : (if t273 = true then (if t272.size + a0.size ≤ 9223372036854775807 then (some (t272 ++ a0, true)) else (none)) else (some ((⟨#[]⟩ : ByteArray), false))) = some (r1, r2) := H
 have A2 := Aside0.mk A20
 clear A20
 by_cases c3 : t273 = true
 ·subst c3
  have H1 : (if t272.size + a0.size ≤ 9223372036854775807 then (some (t272 ++ a0, true)) else (none)) = some (r1, r2) := by rw [if_pos rfl] at H; exact H
  clear H
  have H := H1
  clear H1
  by_cases c4 : t272.size + a0.size ≤ 9223372036854775807
  rotate_left
  ·rw [if_neg c4] at H
   exact absurd H (by simp)
  rw [if_pos c4] at H
  have c4b0 := eq_true c4
  have c4b1 : decide (t272.size + a0.size ≤ 9223372036854775807) = true := decide_eq_true c4
  try have c4b2 : (9223372036854775807 < t272.size + a0.size) = False := eq_false (Nat.not_lt.2 c4)
  simp only [Option.some.injEq, Prod.mk.injEq] at H
  obtain ⟨rfl, rfl⟩ := H
  go_enter Tryd.func28, Tryd.ntmps28
  go_wp2_with (first | ((with_reducible refine gate_callee (f := 47) rfl ?_); refine goesL_ (some 9) rfl rfl Tryd.func47 (by kernel_rfl) rfl #[.int .i64 (a0.size : Int), .int .i64 2] rfl (by (try simp only [gm_]); first | done | rfl | (simp only [gl_]; rfl)) ?_; (with_reducible refine (palaverref01_Number.calls k (a0.size : Int) 2 t272 true _ A2.out).mono ?_); rintro e w5 ⟨rfl, hb⟩; refine ⟨_, rfl, ?_⟩; have n0_ := Aside0.mk (below_step (by repeat (first | (with_reducible first | exact HB.out | apply lA_ | apply lN_ | apply lD_) | exact HB.out)) hb); clear HB; have HB := n0_; clear n0_; (try clear hb); (try clear hb2); (try clear hk); (try clear hi)))
  go_ret2
  exact ⟨by first | rfl | (simp [errW_none, errW_some] <;> rfl) | (simp [*, errW_none, errW_some] <;> rfl), by repeat (first | (with_reducible first | exact HB.out | apply lA_ | apply lN_ | apply lD_) | exact HB.out)⟩
 replace c3 := Bool.eq_false_iff.mpr c3
 subst c3
 have H1 : (some ((⟨#[]⟩ : ByteArray), false)) = some (r1, r2) := by rw [if_neg (show ¬ (false = true) by decide)] at H; exact H
 clear H
 have H := H1
 clear H1
 simp only [Option.some.injEq, Prod.mk.injEq] at H
 obtain ⟨rfl, rfl⟩ := H
 go_enter Tryd.func28, Tryd.ntmps28
 go_wp2_with (first | ((with_reducible refine gate_callee (f := 47) rfl ?_); refine goesL_ (some 9) rfl rfl Tryd.func47 (by kernel_rfl) rfl #[.int .i64 (a0.size : Int), .int .i64 2] rfl (by (try simp only [gm_]); first | done | rfl | (simp only [gl_]; rfl)) ?_; (with_reducible refine (palaverref01_Number.calls k (a0.size : Int) 2 t272 false _ A2.out).mono ?_); rintro e w6 ⟨rfl, hb⟩; refine ⟨_, rfl, ?_⟩; have n0_ := Aside0.mk (below_step (by repeat (first | (with_reducible first | exact HB.out | apply lA_ | apply lN_ | apply lD_) | exact HB.out)) hb); clear HB; have HB := n0_; clear n0_; (try clear hb); (try clear hb2); (try clear hk); (try clear hi)))
 go_ret2
 exact ⟨by first | rfl | (simp [errW_none, errW_some] <;> rfl) | (simp [*, errW_none, errW_some] <;> rfl), by repeat (first | (with_reducible first | exact HB.out | apply lA_ | apply lN_ | apply lD_) | exact HB.out)⟩

/-! ### palaverref06_Content: function 16 -/
def palaverref06_Content.l0 : Nat → ByteArray → ByteArray → Int → Int → ByteArray → List ByteArray → ByteArray → ByteArray → Option (ByteArray)
 | 0, _, _, _, _, _, _, _, _ => none
 | k + 1, x5, x7, x8, x275000, x275001, x275002, x275003, x275004 => if x8 < (x275002.length : Int) then (if 0 ≤ x8 then (if x7.size + (rdOf ByteArray.empty x275002 x8).size ≤ 9223372036854775807 then (palaverref06_Content.l0 k x5 (x7 ++ (rdOf ByteArray.empty x275002 x8)) (wrap64 (x8 + 1)) x275000 x275001 x275002 x275003 x275004) else (none)) else (none)) else (if x7.size + x5.size ≤ 9223372036854775807 then (some (x7 ++ x5)) else (none))
def palaverref06_Content.f (k : Nat) (a0_0 : Int) (a0_1 : ByteArray) (l0_2 : List ByteArray) (a0_3 : ByteArray) (a0_4 : ByteArray) : Option (ByteArray) := (palaverref01_Text.f k a0_1).bind fun bt275 => ((palaverref01_Text.f k a0_3).bind fun bt277 => ((some (([(a0_0) % 256] : List Int) : List Int)).bind fun y279 => (if (strOfNums y279).size + bt275.1.size ≤ 9223372036854775807 then ((some (([((l0_2.length : Int)) % 256] : List Int) : List Int)).bind fun y282 => (if ((strOfNums y279) ++ bt275.1).size + (strOfNums y282).size ≤ 9223372036854775807 then (palaverref06_Content.l0 k bt277.1 (((strOfNums y279) ++ bt275.1) ++ (strOfNums y282)) 0 a0_0 a0_1 l0_2 a0_3 a0_4) else (none))) else (none))))
theorem palaverref06_Content.mono_l : ∀ k, (∀ y0 y1 y2 y3 y4 y5 y6 y7, LeO (palaverref06_Content.l0 k y0 y1 y2 y3 y4 y5 y6 y7) (palaverref06_Content.l0 (k + 1) y0 y1 y2 y3 y4 y5 y6 y7))
 | 0 => fun _ _ _ _ _ _ _ _ r h => by simp [palaverref06_Content.l0] at h
 | k + 1 => by
  have ih0 := palaverref06_Content.mono_l k
  ·intro y0 y1 y2 y3 y4 y5 y6 y7
   unfold palaverref06_Content.l0
   repeat' first
   | (with_reducible exact ih0 _ _ _ _ _ _ _ _)
   | (with_reducible exact palaverref01_Text.mono _ _)
   | (with_reducible exact LeO.refl _)
   | (with_reducible exact LeO.none _)
   | (with_reducible refine LeO.ite ?_ ?_)
   | (with_reducible refine LeO.bind ?_ (fun _ => ?_))
   | exact ih0 _ _ _ _ _ _ _ _
   | exact palaverref01_Text.mono _ _
   | exact LeO.none _
   | refine LeO.ite ?_ ?_
   | refine LeO.bind ?_ (fun _ => ?_)
theorem palaverref06_Content.mono : ∀ a0 a1 a2 a3 a4 k, LeO (palaverref06_Content.f k a0 a1 a2 a3 a4) (palaverref06_Content.f (k + 1) a0 a1 a2 a3 a4) := by
 intro a0 a1 a2 a3 a4 k
 have ih0 := palaverref06_Content.mono_l k
 unfold palaverref06_Content.f
 repeat' first
  | (with_reducible exact ih0 _ _ _ _ _ _ _ _)
  | (with_reducible exact palaverref01_Text.mono _ _)
  | (with_reducible exact LeO.refl _)
  | (with_reducible exact LeO.none _)
  | (with_reducible refine LeO.ite ?_ ?_)
  | (with_reducible refine LeO.bind ?_ (fun _ => ?_))
  | exact ih0 _ _ _ _ _ _ _ _
  | exact palaverref01_Text.mono _ _
  | exact LeO.none _
  | refine LeO.ite ?_ ?_
  | refine LeO.bind ?_ (fun _ => ?_)
set_option maxHeartbeats 64000000 in
set_option maxRecDepth 100000 in
theorem palaverref06_Content.calls (k : Nat) (a0_0 : Int) (a0_1 : ByteArray) (A0_2 : Option Addr) (c0_2 : Nat) (l0_2 : List ByteArray) (a0_3 : ByteArray) (a0_4 : ByteArray) (r : ByteArray) (w : World) (hr0_2 : Kd.C Kd.string w A0_2 l0_2.length l0_2) (hc0_2 : l0_2.length ≤ c0_2) (h : palaverref06_Content.f k a0_0 a0_1 l0_2 a0_3 a0_4 = some r) :
 Calls Tryd.prog 16 #[.agg #[.int .i64 a0_0, .string a0_1, .slice A0_2 l0_2.length c0_2, .string a0_3, .string a0_4]] w fun e w' => e = .returned (.string r) ∧ Below w.heap.size w w' := by
 have hu24 := Tryd.underlying24
 have HR0_2 := Aside0.mk hr0_2
 have HC0_2 := Aside0.mk hc0_2
 clear hr0_2 hc0_2
 have HB := Aside0.mk (Below.refl w.heap.size w)
 have H : ((palaverref01_Text.f k a0_1).bind fun bt275 => ((palaverref01_Text.f k a0_3).bind fun bt277 => ((some (([(a0_0) % 256] : List Int) : List Int)).bind fun y279 => (if (strOfNums y279).size + bt275.1.size ≤ 9223372036854775807 then ((some (([((l0_2.length : Int)) % 256] : List Int) : List Int)).bind fun y282 => (if ((strOfNums y279) ++ bt275.1).size + (strOfNums y282).size ≤ 9223372036854775807 then (palaverref06_Content.l0 k bt277.1 (((strOfNums y279) ++ bt275.1) ++ (strOfNums y282)) 0 a0_0 a0_1 l0_2 a0_3 a0_4) else (none))) else (none))))) = some r := h
 clear h
 replace H := ob_ H
 obtain ⟨⟨t275, t276⟩, A20, H⟩ := H
 replace H : ((palaverref01_Text.f k a0_3).bind fun bt277 => ((some (([(a0_0) % 256] : List Int) : List Int)).bind fun y279 => (if (strOfNums y279).size + t275.size ≤ 9223372036854775807 then ((some (([((l0_2.length : Int)) % 256] : List Int) : List Int)).bind fun y282 => (if ((strOfNums y279) ++ t275).size + (strOfNums y282).size ≤ 9223372036854775807 then (palaverref06_Content.l0 k bt277.1 (((strOfNums y279) ++ t275) ++ (strOfNums y282)) 0 a0_0 a0_1 l0_2 a0_3 a0_4) else (none))) else (none)))) = some r := H
 have A2 := Aside0.mk A20
 clear A20
 replace H := ob_ H
 obtain ⟨⟨t277, t278⟩, A30, H⟩ := H
 replace H : ((some (([(a0_0) % 256] : List Int) : List Int)).bind fun y279 => (if (strOfNums y279).size + t275.size ≤ 9223372036854775807 then ((some (([((l0_2.length : Int)) % 256] : List Int) : List Int)).bind fun y282 => (if ((strOfNums y279) ++ t275).size + (strOfNums y282).size ≤ 9223372036854775807 then (palaverref06_Content.l0 k t277 (((strOfNums y279) ++ t275) ++ (strOfNums y282)) 0 a0_0 a0_1 l0_2 a0_3 a0_4) else (none))) else (none))) = some r := H
 have A3 := Aside0.mk A30
 clear A30
 obtain ⟨y279, hy279⟩ : ∃ y_ : List Int, y_ = (([(a0_0) % 256] : List Int)) := ⟨_, rfl⟩
 replace H : (if (strOfNums y279).size + t275.size ≤ 9223372036854775807 then ((some (([((l0_2.length : Int)) % 256] : List Int) : List Int)).bind fun y282 => (if ((strOfNums y279) ++ t275).size + (strOfNums y282).size ≤ 9223372036854775807 then (palaverref06_Content.l0 k t277 (((strOfNums y279) ++ t275) ++ (strOfNums y282)) 0 a0_0 a0_1 l0_2 a0_3 a0_4) else (none))) else (none)) = some r := by first | (rw [hy279]; with_reducible exact H) | (have H2_ := (Option.bind_some _ _).symm.trans H; rw [hy279]; with_reducible exact H2_) | (have H2_ := (Option.bind_some _ _).symm.trans H; with_reducible exact H2_) | with_reducible exact H | (rw [hy279]; exact H) | exact H
 have Ny279 := Aside0.mk hy279
 clear hy279
 by_cases c4 : (strOfNums y279).size + t275.size ≤ 9223372036854775807
 rotate_left
 ·rw [if_neg c4] at H
  exact absurd H (by simp)
 rw [if_pos c4] at H
 have c4b0 := eq_true c4
 have c4b1 : decide ((strOfNums y279).size + t275.size ≤ 9223372036854775807) = true := decide_eq_true c4
 try have c4b2 : (9223372036854775807 < (strOfNums y279).size + t275.size) = False := eq_false (Nat.not_lt.2 c4)
 obtain ⟨y282, hy282⟩ : ∃ y_ : List Int, y_ = (([((l0_2.length : Int)) % 256] : List Int)) := ⟨_, rfl⟩
 replace H : (if ((strOfNums y279) ++ t275).size + (strOfNums y282).size ≤ 9223372036854775807 then (palaverref06_Content.l0 k t277 (((strOfNums y279) ++ t275) ++ (strOfNums y282)) 0 a0_0 a0_1 l0_2 a0_3 a0_4) else (none)) = some r := by first | (rw [hy282]; with_reducible exact H) | (have H2_ := (Option.bind_some _ _).symm.trans H; rw [hy282]; with_reducible exact H2_) | (have H2_ := (Option.bind_some _ _).symm.trans H; with_reducible exact H2_) | with_reducible exact H | (rw [hy282]; exact H) | exact H
 have Ny282 := Aside0.mk hy282
 clear hy282
 by_cases c5 : ((strOfNums y279) ++ t275).size + (strOfNums y282).size ≤ 9223372036854775807
 rotate_left
 ·rw [if_neg c5] at H
  exact absurd H (by simp)
 rw [if_pos c5] at H
 have c5b0 := eq_true c5
 have c5b1 : decide (((strOfNums y279) ++ t275).size + (strOfNums y282).size ≤ 9223372036854775807) = true := decide_eq_true c5
 try have c5b2 : (9223372036854775807 < ((strOfNums y279) ++ t275).size + (strOfNums y282).size) = False := eq_false (Nat.not_lt.2 c5)
 have H' := Aside0.mk H
 clear H
 go_enter Tryd.func16, Tryd.ntmps16
 go_wp2_with (first | ((with_reducible refine gate_dst (N := 1) rfl ?_); refine box_event ?hg (N := 1) ?hd (cs := #[.int .i64 a0_0, .string a0_1, .slice A0_2 l0_2.length c0_2, .string a0_3, .string a0_4]) (t := 24) ?hr ?_; (case hd => rfl); (case hg => rfl); (case hr => first | (go_simp; done) | (go_simp; rfl)); intro gb274 hg w6 hbox hb; have n0_ := Aside0.mk (below_step (by repeat (first | (with_reducible first | exact HB.out | apply lA_ | apply lN_ | apply lD_) | exact HB.out)) hb); have n1_ := Aside0.mk (hbox); have n2_ := Aside0.mk ((by rw [hg]; exact (below_size (by repeat (first | (with_reducible first | exact HB.out | apply lA_ | apply lN_ | apply lD_) | exact HB.out))) : w.heap.size ≤ gb274)); have n3_ := Aside0.mk ((by rw [hg]; exact (below_size (by repeat (first | (with_reducible first | exact HB.out | apply lA_ | apply lN_ | apply lD_) | exact HB.out))) : w.heap.size ≤ gb274)); clear HB; have HB := n0_; have BK274 := n1_; have GW274 := n2_; have GE274 := n3_; clear n0_ n1_ n2_ n3_; clear hb hbox hg; obtain ⟨hcz7_0, hcz7_1, hcz7_2, hcz7_3, hcz7_4⟩ := c5_ BK274.out; obtain ⟨hfz7_0, hfz7_1, hfz7_2, hfz7_3, hfz7_4⟩ := f5_ BK274.out) | ((with_reducible refine gate_callee (f := 28) rfl ?_); refine goesL_ (some 12) rfl rfl Tryd.func28 (by kernel_rfl) rfl #[.string a0_1] rfl (by (try simp only [gm_]); first | done | rfl | (simp only [gl_]; rfl)) ?_; (with_reducible refine (palaverref01_Text.calls k a0_1 t275 t276 _ A2.out).mono ?_); rintro e w8 ⟨rfl, hb⟩; refine ⟨_, rfl, ?_⟩; have n0_ := Aside0.mk (blk_below (g := gb274) (o := .cells #[.int .i64 a0_0, .string a0_1, .slice A0_2 l0_2.length c0_2, .string a0_3, .string a0_4] 24 (0, 0)) (by (with_reducible repeat (first | refine bN_ ?_ _ | refine bD_ ?_ | refine bA_ ?_ _)); exact BK274.out) hb); have n1_ := Aside0.mk (below_step (by repeat (first | (with_reducible first | exact HB.out | apply lA_ | apply lN_ | apply lD_ | refine lS_ ?_ GE274.out) | exact HB.out)) hb); clear BK274; clear HB; have BK274 := n0_; have HB := n1_; clear n0_ n1_; (try clear hb); (try clear hb2); (try clear hk); (try clear hi); obtain ⟨hcz9_0, hcz9_1, hcz9_2, hcz9_3, hcz9_4⟩ := c5_ BK274.out; obtain ⟨hfz9_0, hfz9_1, hfz9_2, hfz9_3, hfz9_4⟩ := f5_ BK274.out) | ((with_reducible refine gate_callee (f := 28) rfl ?_); refine goesL_ (some 18) rfl rfl Tryd.func28 (by kernel_rfl) rfl #[.string a0_3] rfl (by (try simp only [gm_]); first | done | rfl | (simp only [gl_]; rfl)) ?_; (with_reducible refine (palaverref01_Text.calls k a0_3 t277 t278 _ A3.out).mono ?_); rintro e w10 ⟨rfl, hb⟩; refine ⟨_, rfl, ?_⟩; have n0_ := Aside0.mk (blk_below (g := gb274) (o := .cells #[.int .i64 a0_0, .string a0_1, .slice A0_2 l0_2.length c0_2, .string a0_3, .string a0_4] 24 (0, 0)) (by (with_reducible repeat (first | refine bN_ ?_ _ | refine bD_ ?_ | refine bA_ ?_ _)); exact BK274.out) hb); have n1_ := Aside0.mk (below_step (by repeat (first | (with_reducible first | exact HB.out | apply lA_ | apply lN_ | apply lD_ | refine lS_ ?_ GE274.out) | exact HB.out)) hb); clear BK274; clear HB; have BK274 := n0_; have HB := n1_; clear n0_ n1_; (try clear hb); (try clear hb2); (try clear hk); (try clear hi); obtain ⟨hcz11_0, hcz11_1, hcz11_2, hcz11_3, hcz11_4⟩ := c5_ BK274.out; obtain ⟨hfz11_0, hfz11_1, hfz11_2, hfz11_3, hfz11_4⟩ := f5_ BK274.out) | ((with_reducible refine gate_dst (N := 24) rfl ?_); refine Kd.R_lit (Kd.int .u8) _ 5 ?hg (N := 24) ?hd (xs := ([(a0_0) % 256] : List Int)) (inner := [.int .u8 ((a0_0) % 256)]) (ok := fun _ => True) (okp := fun _ => True) ?hr ?hp (fun _ hk => hk) trivial (Below.refl _ _) (Nat.le_refl _) (by simp) ?_; (case hd => rfl); (case hg => rfl); (case hr => first | (go_simp; done) | (go_simp; rfl)); (case hp => exact (Reps.one (show Kd.M (Kd.int .u8) _ _ _ ((a0_0) % 256) [.int .u8 ((a0_0) % 256)] from rfl) (Reps.none _ _))); intro v280 w12 ho13 hb hg_ hnew_; clear hg_ hnew_; (first | rw [← Ny279.out] at ho13 | (simp only [Int.reduceToNat] at ho13; rw [← Ny279.out] at ho13)); have n0_ := Aside0.mk (Kd.R_lower ho13 (below_size (by repeat (first | (with_reducible first | exact HB.out | apply lA_ | apply lN_ | apply lD_ | refine lS_ ?_ GE274.out) | exact HB.out)))); have n1_ := Aside0.mk (blk_below (g := gb274) (o := .cells #[.int .i64 a0_0, .string a0_1, .slice A0_2 l0_2.length c0_2, .string a0_3, .string a0_4] 24 (0, 0)) (by (with_reducible repeat (first | refine bN_ ?_ _ | refine bD_ ?_ | refine bA_ ?_ _)); exact BK274.out) hb); have n2_ := Aside0.mk (below_step (by repeat (first | (with_reducible first | exact HB.out | apply lA_ | apply lN_ | apply lD_ | refine lS_ ?_ GE274.out) | exact HB.out)) hb); clear BK274; clear HB; have HO281 := n0_; have BK274 := n1_; have HB := n2_; clear n0_ n1_ n2_; clear hb ho13; have hcv14 := own_string (P := Tryd.prog) Tryd.underlying42 Tryd.underlying5 Tryd.underlying9 (Kd.own_of_R HO281.out); obtain ⟨hcz15_0, hcz15_1, hcz15_2, hcz15_3, hcz15_4⟩ := c5_ BK274.out; obtain ⟨hfz15_0, hfz15_1, hfz15_2, hfz15_3, hfz15_4⟩ := f5_ BK274.out) | ((with_reducible refine gate_dst (N := 32) rfl ?_); refine Kd.R_lit (Kd.int .u8) _ 5 ?hg (N := 32) ?hd (xs := ([((l0_2.length : Int)) % 256] : List Int)) (inner := [.int .u8 (((l0_2.length : Int)) % 256)]) (ok := fun _ => True) (okp := fun _ => True) ?hr ?hp (fun _ hk => hk) trivial (Below.refl _ _) (Nat.le_refl _) (by simp) ?_; (case hd => rfl); (case hg => rfl); (case hr => first | (go_simp; done) | (go_simp; rfl)); (case hp => exact (Reps.one (show Kd.M (Kd.int .u8) _ _ _ (((l0_2.length : Int)) % 256) [.int .u8 (((l0_2.length : Int)) % 256)] from rfl) (Reps.none _ _))); intro v283 w16 ho17 hb hg_ hnew_; clear hg_ hnew_; (first | rw [← Ny282.out] at ho17 | (simp only [Int.reduceToNat] at ho17; rw [← Ny282.out] at ho17)); have n0_ := Aside0.mk (Kd.R_elder' (by (with_reducible repeat (first | apply Kd.R_alloc | apply Kd.R_drewN | apply Kd.R_drew)); exact HO281.out) (Kd.R_base ho17) hb); have n1_ := Aside0.mk (Kd.R_lower (Kd.R_new' ho17 (Kd.R_lt (by (with_reducible repeat (first | apply Kd.R_alloc | apply Kd.R_drewN | apply Kd.R_drew)); exact HO281.out))) (below_size (by repeat (first | (with_reducible first | exact HB.out | apply lA_ | apply lN_ | apply lD_ | refine lS_ ?_ GE274.out) | exact HB.out)))); have n2_ := Aside0.mk (blk_below (g := gb274) (o := .cells #[.int .i64 a0_0, .string a0_1, .slice A0_2 l0_2.length c0_2, .string a0_3, .string a0_4] 24 (0, 0)) (by (with_reducible repeat (first | refine bN_ ?_ _ | refine bD_ ?_ | refine bA_ ?_ _)); exact BK274.out) hb); have n3_ := Aside0.mk (below_step (by repeat (first | (with_reducible first | exact HB.out | apply lA_ | apply lN_ | apply lD_ | refine lS_ ?_ GE274.out) | exact HB.out)) hb); clear HO281; clear BK274; clear HB; have HO281 := n0_; have HO284 := n1_; have BK274 := n2_; have HB := n3_; clear n0_ n1_ n2_ n3_; clear hb ho17; have hcv18 := own_string (P := Tryd.prog) Tryd.underlying42 Tryd.underlying5 Tryd.underlying9 (Kd.own_of_R HO284.out)))
 go_loopg [7, 8] k (fun kq v7 v8 w' => ∃ (x7_1 : ByteArray) (x8_1 : Int), v7 = .string x7_1 ∧ v8 = .int .i64 x8_1 ∧ Aside0 (palaverref06_Content.l0 kq t277 x7_1 x8_1 a0_0 a0_1 l0_2 a0_3 a0_4 = some r) ∧ Aside0 (kq ≤ k) ∧ Aside0 (w'.heap[gb274]? = some (.cells #[.int .i64 a0_0, .string a0_1, (.slice A0_2 l0_2.length c0_2), .string a0_3, .string a0_4] 24 (0, 0))) ∧ Aside0 (Below w.heap.size w w'))
 case atStart => exact ⟨(((strOfNums y279) ++ t275) ++ (strOfNums y282)), (0), (by first | rfl | (simp; done) | (simp [*]; done) | exact congrArg Value.bool (nonempty_l _) | (refine congrArg (Value.int _) ?_; first | omega | (unfold wrap64; omega))), (by first | rfl | (simp; done) | (simp [*]; done) | exact congrArg Value.bool (nonempty_l _) | (refine congrArg (Value.int _) ?_; first | omega | (unfold wrap64; omega))), H', ⟨Nat.le_refl _⟩, ⟨by (with_reducible repeat (first | refine bN_ ?_ _ | refine bD_ ?_ | refine bA_ ?_ _)); exact BK274.out⟩, ⟨by repeat (first | (with_reducible first | exact HB.out | apply lA_ | apply lN_ | apply lD_ | refine lS_ ?_ GE274.out) | exact HB.out)⟩⟩
 case round =>
  clear H'
  (try clear c1); (try clear hcv1); (try clear c2); (try clear p2); (try clear c4); (try clear c4b0); (try clear c4b1); (try clear c4b2); (try clear c5); (try clear c5b0); (try clear c5b1); (try clear c5b2); (try clear p6); (try clear hcv14); (try clear c16); (try clear hcv18); (try clear hcz11_0); (try clear hcz11_1); (try clear hcz11_2); (try clear hcz11_3); (try clear hcz11_4); (try clear hcz15_0); (try clear hcz15_1); (try clear hcz15_2); (try clear hcz15_3); (try clear hcz15_4); (try clear hcz7_0); (try clear hcz7_1); (try clear hcz7_2); (try clear hcz7_3); (try clear hcz7_4); (try clear hcz9_0); (try clear hcz9_1); (try clear hcz9_2); (try clear hcz9_3); (try clear hcz9_4); (try clear hfz11_0); (try clear hfz11_1); (try clear hfz11_2); (try clear hfz11_3); (try clear hfz11_4); (try clear hfz15_0); (try clear hfz15_1); (try clear hfz15_2); (try clear hfz15_3); (try clear hfz15_4); (try clear hfz7_0); (try clear hfz7_1); (try clear hfz7_2); (try clear hfz7_3); (try clear hfz7_4); (try clear hfz9_0); (try clear hfz9_1); (try clear hfz9_2); (try clear hfz9_3); (try clear hfz9_4)
  obtain ⟨x7_1, x8_1, rfl, rfl, HA, HK1, BK274, HB⟩ := hrel
  cases gk with
  | zero => exact absurd HA.out (by simp [palaverref06_Content.l0])
  | succ k1 =>
   have H := HA.out
   clear HA
   simp only [palaverref06_Content.l0] at H
   by_cases c19 : x8_1 < (l0_2.length : Int)
   ·rw [if_pos c19] at H
    have c19b0 : decide (x8_1 < (l0_2.length : Int)) = true := decide_eq_true c19
    clear c19
    by_cases c20 : 0 ≤ x8_1
    rotate_left
    ·rw [if_neg c20] at H
     exact absurd H (by simp)
    rw [if_pos c20] at H
    have c20b0 : decide (0 ≤ x8_1) = true := decide_eq_true c20
    clear c20
    by_cases c21 : x7_1.size + (rdOf ByteArray.empty l0_2 x8_1).size ≤ 9223372036854775807
    rotate_left
    ·rw [if_neg c21] at H
     exact absurd H (by simp)
    rw [if_pos c21] at H
    have c21b0 := eq_true c21
    have c21b1 : decide (x7_1.size + (rdOf ByteArray.empty l0_2 x8_1).size ≤ 9223372036854775807) = true := decide_eq_true c21
    try have c21b2 : (9223372036854775807 < x7_1.size + (rdOf ByteArray.empty l0_2 x8_1).size) = False := eq_false (Nat.not_lt.2 c21)
    have H' := Aside0.mk H
    clear H
    obtain ⟨hcz22_0, hcz22_1, hcz22_2, hcz22_3, hcz22_4⟩ := c5_ BK274.out
    obtain ⟨hfz22_0, hfz22_1, hfz22_2, hfz22_3, hfz22_4⟩ := f5_ BK274.out
    have p285 : 0 ≤ (x8_1 : Int) := od_ (by first | (with_reducible assumption) | assumption)
    have q285 : x8_1 < (l0_2.length : Int) := od_ (by first | (with_reducible assumption) | assumption)
    obtain ⟨ad285, e285, hx285_0⟩ := Kd.at_string HR0_2.out x8_1 p285 q285
    cases e285
    replace hx285_0 := (HB.out.cell (World.block_lt_of_cell? w _ hx285_0)).trans hx285_0
    replace p285 := eq_true p285
    replace q285 := eq_true q285
    go_wp2
    go_roundg k1
    case measure => have := HK1.out; omega
    case rel => exact ⟨(x7_1 ++ (rdOf ByteArray.empty l0_2 x8_1)), (wrap64 (x8_1 + 1)), (by first | rfl | (simp; done) | (simp [*]; done) | exact congrArg Value.bool (nonempty_l _) | (refine congrArg (Value.int _) ?_; first | omega | (unfold wrap64; omega))), (by first | rfl | (simp; done) | (simp [*]; done) | exact congrArg Value.bool (nonempty_l _) | (refine congrArg (Value.int _) ?_; first | omega | (unfold wrap64; omega))), H', ⟨by have := HK1.out; omega⟩, ⟨by (with_reducible repeat (first | refine bN_ ?_ _ | refine bD_ ?_ | refine bA_ ?_ _)); exact BK274.out⟩, ⟨by repeat (first | (with_reducible first | exact HB.out | apply lA_ | apply lN_ | apply lD_ | refine lS_ ?_ GE274.out) | exact HB.out)⟩⟩
   rw [if_neg c19] at H
   have c19b0 : decide (x8_1 < (l0_2.length : Int)) = false := decide_eq_false c19
   clear c19
   by_cases c23 : x7_1.size + t277.size ≤ 9223372036854775807
   rotate_left
   ·rw [if_neg c23] at H
    exact absurd H (by simp)
   rw [if_pos c23] at H
   have c23b0 := eq_true c23
   have c23b1 : decide (x7_1.size + t277.size ≤ 9223372036854775807) = true := decide_eq_true c23
   try have c23b2 : (9223372036854775807 < x7_1.size + t277.size) = False := eq_false (Nat.not_lt.2 c23)
   obtain rfl := Option.some.inj H
   obtain ⟨hcz24_0, hcz24_1, hcz24_2, hcz24_3, hcz24_4⟩ := c5_ BK274.out
   obtain ⟨hfz24_0, hfz24_1, hfz24_2, hfz24_3, hfz24_4⟩ := f5_ BK274.out
   go_wp2
   go_ret
   exact ⟨by first | rfl | (simp [errW_none, errW_some] <;> rfl) | (simp [*, errW_none, errW_some] <;> rfl), by repeat (first | (with_reducible first | exact HB.out | apply lA_ | apply lN_ | apply lD_ | refine lS_ ?_ GE274.out) | exact HB.out)⟩

/-! ### palaverref06_Encode: function 15 -/
def palaverref06_Encode.f (k : Nat) (a0_0 : Int) (a0_1 : ByteArray) (l0_2 : List ByteArray) (a0_3 : ByteArray) (a0_4 : ByteArray) : Option (ByteArray) := (palaverref01_Text.f k a0_4).bind fun bt287 => ((palaverref06_Content.f k a0_0 a0_1 l0_2 a0_3 a0_4).bind fun t289 => (if t289.size + bt287.1.size ≤ 9223372036854775807 then (some (t289 ++ bt287.1)) else (none)))
theorem palaverref06_Encode.mono : ∀ a0 a1 a2 a3 a4 k, LeO (palaverref06_Encode.f k a0 a1 a2 a3 a4) (palaverref06_Encode.f (k + 1) a0 a1 a2 a3 a4) := by
 intro a0 a1 a2 a3 a4 k
 unfold palaverref06_Encode.f
 repeat' first
  | (with_reducible exact palaverref01_Text.mono _ _)
  | (with_reducible exact palaverref06_Content.mono _ _ _ _ _ _)
  | (with_reducible exact LeO.refl _)
  | (with_reducible exact LeO.none _)
  | (with_reducible refine LeO.ite ?_ ?_)
  | (with_reducible refine LeO.bind ?_ (fun _ => ?_))
  | exact palaverref01_Text.mono _ _
  | exact palaverref06_Content.mono _ _ _ _ _ _
  | exact LeO.none _
  | refine LeO.ite ?_ ?_
  | refine LeO.bind ?_ (fun _ => ?_)
set_option maxHeartbeats 64000000 in
set_option maxRecDepth 100000 in
theorem palaverref06_Encode.calls (k : Nat) (a0_0 : Int) (a0_1 : ByteArray) (A0_2 : Option Addr) (c0_2 : Nat) (l0_2 : List ByteArray) (a0_3 : ByteArray) (a0_4 : ByteArray) (r : ByteArray) (w : World) (hr0_2 : Kd.C Kd.string w A0_2 l0_2.length l0_2) (hc0_2 : l0_2.length ≤ c0_2) (h : palaverref06_Encode.f k a0_0 a0_1 l0_2 a0_3 a0_4 = some r) :
 Calls Tryd.prog 15 #[.agg #[.int .i64 a0_0, .string a0_1, .slice A0_2 l0_2.length c0_2, .string a0_3, .string a0_4]] w fun e w' => e = .returned (.string r) ∧ Below w.heap.size w w' := by
 have hu24 := Tryd.underlying24
 have HR0_2 := Aside0.mk hr0_2
 have HC0_2 := Aside0.mk hc0_2
 clear hr0_2 hc0_2
 have HB := Aside0.mk (Below.refl w.heap.size w)
 have H : ((palaverref01_Text.f k a0_4).bind fun bt287 => ((palaverref06_Content.f k a0_0 a0_1 l0_2 a0_3 a0_4).bind fun t289 => (if t289.size + bt287.1.size ≤ 9223372036854775807 then (some (t289 ++ bt287.1)) else (none)))) = some r := h
 clear h
 replace H := ob_ H
 obtain ⟨⟨t287, t288⟩, A20, H⟩ := H
 replace H : ((palaverref06_Content.f k a0_0 a0_1 l0_2 a0_3 a0_4).bind fun t289 => (if t289.size + t287.size ≤ 9223372036854775807 then (some (t289 ++ t287)) else (none))) = some r := H
 have A2 := Aside0.mk A20
 clear A20
 replace H := ob_ H
 obtain ⟨t289, A30, H⟩ := H
 replace H : (if t289.size + t287.size ≤ 9223372036854775807 then (some (t289 ++ t287)) else (none)) = some r := H
 have A3 := Aside0.mk A30
 clear A30
 by_cases c4 : t289.size + t287.size ≤ 9223372036854775807
 rotate_left
 ·rw [if_neg c4] at H
  exact absurd H (by simp)
 rw [if_pos c4] at H
 have c4b0 := eq_true c4
 have c4b1 : decide (t289.size + t287.size ≤ 9223372036854775807) = true := decide_eq_true c4
 try have c4b2 : (9223372036854775807 < t289.size + t287.size) = False := eq_false (Nat.not_lt.2 c4)
 obtain rfl := Option.some.inj H
 go_enter Tryd.func15, Tryd.ntmps15
 go_wp2_with (first | ((with_reducible refine gate_dst (N := 1) rfl ?_); refine box_event ?hg (N := 1) ?hd (cs := #[.int .i64 a0_0, .string a0_1, .slice A0_2 l0_2.length c0_2, .string a0_3, .string a0_4]) (t := 24) ?hr ?_; (case hd => rfl); (case hg => rfl); (case hr => first | (go_simp; done) | (go_simp; rfl)); intro gb286 hg w5 hbox hb; have n0_ := Aside0.mk (below_step (by repeat (first | (with_reducible first | exact HB.out | apply lA_ | apply lN_ | apply lD_) | exact HB.out)) hb); have n1_ := Aside0.mk (hbox); have n2_ := Aside0.mk ((by rw [hg]; exact (below_size (by repeat (first | (with_reducible first | exact HB.out | apply lA_ | apply lN_ | apply lD_) | exact HB.out))) : w.heap.size ≤ gb286)); have n3_ := Aside0.mk ((by rw [hg]; exact (below_size (by repeat (first | (with_reducible first | exact HB.out | apply lA_ | apply lN_ | apply lD_) | exact HB.out))) : w.heap.size ≤ gb286)); clear HB; have HB := n0_; have BK286 := n1_; have GW286 := n2_; have GE286 := n3_; clear n0_ n1_ n2_ n3_; clear hb hbox hg; obtain ⟨hcz6_0, hcz6_1, hcz6_2, hcz6_3, hcz6_4⟩ := c5_ BK286.out; obtain ⟨hfz6_0, hfz6_1, hfz6_2, hfz6_3, hfz6_4⟩ := f5_ BK286.out) | ((with_reducible refine gate_callee (f := 28) rfl ?_); refine goesL_ (some 8) rfl rfl Tryd.func28 (by kernel_rfl) rfl #[.string a0_4] rfl (by (try simp only [gm_]); first | done | rfl | (simp only [gl_]; rfl)) ?_; (with_reducible refine (palaverref01_Text.calls k a0_4 t287 t288 _ A2.out).mono ?_); rintro e w7 ⟨rfl, hb⟩; refine ⟨_, rfl, ?_⟩; have n0_ := Aside0.mk (blk_below (g := gb286) (o := .cells #[.int .i64 a0_0, .string a0_1, .slice A0_2 l0_2.length c0_2, .string a0_3, .string a0_4] 24 (0, 0)) (by (with_reducible repeat (first | refine bN_ ?_ _ | refine bD_ ?_ | refine bA_ ?_ _)); exact BK286.out) hb); have n1_ := Aside0.mk (below_step (by repeat (first | (with_reducible first | exact HB.out | apply lA_ | apply lN_ | apply lD_ | refine lS_ ?_ GE286.out) | exact HB.out)) hb); clear BK286; clear HB; have BK286 := n0_; have HB := n1_; clear n0_ n1_; (try clear hb); (try clear hb2); (try clear hk); (try clear hi); obtain ⟨hcz8_0, hcz8_1, hcz8_2, hcz8_3, hcz8_4⟩ := c5_ BK286.out; obtain ⟨hfz8_0, hfz8_1, hfz8_2, hfz8_3, hfz8_4⟩ := f5_ BK286.out) | ((with_reducible refine gate_callee (f := 16) rfl ?_); refine goesL_ (some 12) rfl rfl Tryd.func16 (by kernel_rfl) rfl #[.agg #[.int .i64 a0_0, .string a0_1, .slice A0_2 l0_2.length c0_2, .string a0_3, .string a0_4]] rfl (by (try simp only [gm_]); first | done | rfl | (simp only [gl_]; rfl)) ?_; (with_reducible refine (palaverref06_Content.calls k a0_0 a0_1 _ _ l0_2 a0_3 a0_4 t289 _ ?side1 ?side2 A3.out).mono ?_); (case side1 => repeat (first | exact (Kd.C_below HR0_2.out HB.out) | (with_reducible refine Kd.C_alloc ?_ _) | (with_reducible refine Kd.C_drewN ?_ _) | (with_reducible refine Kd.C_drew ?_))); (case side2 => exact HC0_2.out); rintro e w9 ⟨rfl, hb⟩; refine ⟨_, rfl, ?_⟩; have n0_ := Aside0.mk (blk_below (g := gb286) (o := .cells #[.int .i64 a0_0, .string a0_1, .slice A0_2 l0_2.length c0_2, .string a0_3, .string a0_4] 24 (0, 0)) (by (with_reducible repeat (first | refine bN_ ?_ _ | refine bD_ ?_ | refine bA_ ?_ _)); exact BK286.out) hb); have n1_ := Aside0.mk (below_step (by repeat (first | (with_reducible first | exact HB.out | apply lA_ | apply lN_ | apply lD_ | refine lS_ ?_ GE286.out) | exact HB.out)) hb); clear BK286; clear HB; have BK286 := n0_; have HB := n1_; clear n0_ n1_; (try clear hb); (try clear hb2); (try clear hk); (try clear hi)))
 go_ret
 exact ⟨by first | rfl | (simp [errW_none, errW_some] <;> rfl) | (simp [*, errW_none, errW_some] <;> rfl), by repeat (first | (with_reducible first | exact HB.out | apply lA_ | apply lN_ | apply lD_ | refine lS_ ?_ GE286.out) | exact HB.out)⟩

end Go.Proofs.YtmedpnclkbkiiaaDoor.PP
