-- WRITTEN BY a program of this work (wip/ownprint.py), for this seat
import Derived.Test.YtmedpnclkbkiiaaDoorPPx0
import Derived.Test.YtmedpnclkbkiiaaDoorPPx2
import Derived.Test.YtmedpnclkbkiiaaDoorPPx6
import Derived.Test.YtmedpnclkbkiiaaDoorPPx8
import Derived.Test.YtmedpnclkbkiiaaDoorPPx9
import Derived.Test.YtmedpnclkbkiiaaDoorPPx11
namespace Go.Proofs.YtmedpnclkbkiiaaDoor.PP
open Go.RowKit Go.Proofs.YtmedpnclkbkiiaaDoorW.PrintWords Go.Proofs.YtmedpnclkbkiiaaDoorW.PrintLast Go.Proofs.YtmedpnclkbkiiaaDoorW.PrintMore
attribute [local go_sem] max2_int min2_int max_two min_two max_three min_three max_four min_four   -- for this text's walks alone
set_option linter.unusedVariables false
set_option linter.unusedSimpArgs false

/-! ### palaverlaw06_EventRights: function 3 -/
mutual
def palaverlaw06_EventRights.j0 : Nat → ByteArray → Int → ByteArray → Int → Bool → Int → ByteArray → List ByteArray → ByteArray → ByteArray → Int → ByteArray → List ByteArray → ByteArray → ByteArray → Option (Bool)
 | 0, _, _, _, _, _, _, _, _, _, _, _, _, _, _, _ => none
 | k + 1, x3, x4, x5, x6, x41, x291000, x291001, x291002, x291003, x291004, x298000, x298001, x298002, x298003, x298004 => if x41 = true then (some false) else (if x4 = 0 then ((palaverref06_Encode.f k x291000 x291001 x291002 x291003 x291004).bind fun t302 => (if x3.toList = t302.toList then (palaverlaw06_EventRights.j1 k x5 x6 false x298000 x298001 x298002 x298003 x298004) else (palaverlaw06_EventRights.j1 k x5 x6 true x298000 x298001 x298002 x298003 x298004))) else (if x3.toList = ([] : List UInt8) then (palaverlaw06_EventRights.j1 k x5 x6 (x4 != 2) x298000 x298001 x298002 x298003 x298004) else (palaverlaw06_EventRights.j1 k x5 x6 true x298000 x298001 x298002 x298003 x298004)))
def palaverlaw06_EventRights.j1 : Nat → ByteArray → Int → Bool → Int → ByteArray → List ByteArray → ByteArray → ByteArray → Option (Bool)
 | 0, _, _, _, _, _, _, _, _ => none
 | k + 1, x5, x6, x61, x298000, x298001, x298002, x298003, x298004 => if x61 = true then (some false) else (if x6 = 0 then ((palaverref06_Content.f k x298000 x298001 x298002 x298003 x298004).bind fun t303 => (if x5.toList = t303.toList then ((palaverlaw06_awake.f k).bind fun t304 => (some t304)) else (if x6 = 2 then (if x5.toList = ([] : List UInt8) then ((palaverlaw06_awake.f k).bind fun t305 => (some t305)) else (some false)) else (some false)))) else (if x6 = 2 then (if x5.toList = ([] : List UInt8) then ((palaverlaw06_awake.f k).bind fun t306 => (some t306)) else (some false)) else (some false)))
end
def palaverlaw06_EventRights.f (k : Nat) (a0_0 : Int) (a0_1 : ByteArray) (l0_2 : List ByteArray) (a0_3 : ByteArray) (a0_4 : ByteArray) : Option (Bool) := (palaverref06_Great.f k a0_0 a0_1 l0_2 a0_3 a0_4).bind fun t291 => (if t291 = true then ((palaverlaw06_awake.f k).bind fun t292 => (some t292)) else ((event_Encode.f k a0_0 a0_1 l0_2 a0_3 a0_4).bind fun bt293 => ((event_Content.f k a0_0 a0_1 l0_2 a0_3 a0_4).bind fun bt295 => ((event_Right.f k a0_0 a0_1 l0_2 a0_3 a0_4).bind fun t298 => ((palaverref06_Right.f k a0_0 a0_1 l0_2 a0_3 a0_4).bind fun t299 => (if (t298 != t299) = true then (palaverlaw06_EventRights.j0 k bt293.1 bt293.2 bt295.1 bt295.2 true a0_0 a0_1 l0_2 a0_3 a0_4 a0_0 a0_1 l0_2 a0_3 (⟨#[]⟩ : ByteArray)) else ((palaverref06_Right.f k a0_0 a0_1 l0_2 a0_3 a0_4).bind fun t300 => (if ((bt293.2 == 0) != t300) = true then (palaverlaw06_EventRights.j0 k bt293.1 bt293.2 bt295.1 bt295.2 true a0_0 a0_1 l0_2 a0_3 a0_4 a0_0 a0_1 l0_2 a0_3 (⟨#[]⟩ : ByteArray)) else ((palaverref06_Right.f k a0_0 a0_1 l0_2 a0_3 (⟨#[]⟩ : ByteArray)).bind fun t301 => (palaverlaw06_EventRights.j0 k bt293.1 bt293.2 bt295.1 bt295.2 ((bt295.2 == 0) != t301) a0_0 a0_1 l0_2 a0_3 a0_4 a0_0 a0_1 l0_2 a0_3 (⟨#[]⟩ : ByteArray)))))))))))
theorem palaverlaw06_EventRights.mono_l : ∀ k, (∀ y0 y1 y2 y3 y4 y5 y6 y7 y8 y9 y10 y11 y12 y13 y14, LeO (palaverlaw06_EventRights.j0 k y0 y1 y2 y3 y4 y5 y6 y7 y8 y9 y10 y11 y12 y13 y14) (palaverlaw06_EventRights.j0 (k + 1) y0 y1 y2 y3 y4 y5 y6 y7 y8 y9 y10 y11 y12 y13 y14)) ∧ (∀ y0 y1 y2 y3 y4 y5 y6 y7, LeO (palaverlaw06_EventRights.j1 k y0 y1 y2 y3 y4 y5 y6 y7) (palaverlaw06_EventRights.j1 (k + 1) y0 y1 y2 y3 y4 y5 y6 y7))
 | 0 => ⟨fun _ _ _ _ _ _ _ _ _ _ _ _ _ _ _ r h => by simp [palaverlaw06_EventRights.j0] at h, fun _ _ _ _ _ _ _ _ r h => by simp [palaverlaw06_EventRights.j1] at h⟩
 | k + 1 => by
  obtain ⟨ih0, ih1⟩ := palaverlaw06_EventRights.mono_l k
  refine ⟨?_, ?_⟩
  ·intro y0 y1 y2 y3 y4 y5 y6 y7 y8 y9 y10 y11 y12 y13 y14
   unfold palaverlaw06_EventRights.j0
   repeat' first
   | (with_reducible exact ih0 _ _ _ _ _ _ _ _ _ _ _ _ _ _ _)
   | (with_reducible exact ih1 _ _ _ _ _ _ _ _)
   | (with_reducible exact event_Content.mono _ _ _ _ _ _)
   | (with_reducible exact event_Encode.mono _ _ _ _ _ _)
   | (with_reducible exact event_Right.mono _ _ _ _ _ _)
   | (with_reducible exact palaverlaw06_awake.mono _)
   | (with_reducible exact palaverref06_Content.mono _ _ _ _ _ _)
   | (with_reducible exact palaverref06_Encode.mono _ _ _ _ _ _)
   | (with_reducible exact palaverref06_Great.mono _ _ _ _ _ _)
   | (with_reducible exact palaverref06_Right.mono _ _ _ _ _ _)
   | (with_reducible exact LeO.refl _)
   | (with_reducible exact LeO.none _)
   | (with_reducible refine LeO.ite ?_ ?_)
   | (with_reducible refine LeO.bind ?_ (fun _ => ?_))
   | exact ih0 _ _ _ _ _ _ _ _ _ _ _ _ _ _ _
   | exact ih1 _ _ _ _ _ _ _ _
   | exact event_Content.mono _ _ _ _ _ _
   | exact event_Encode.mono _ _ _ _ _ _
   | exact event_Right.mono _ _ _ _ _ _
   | exact palaverlaw06_awake.mono _
   | exact palaverref06_Content.mono _ _ _ _ _ _
   | exact palaverref06_Encode.mono _ _ _ _ _ _
   | exact palaverref06_Great.mono _ _ _ _ _ _
   | exact palaverref06_Right.mono _ _ _ _ _ _
   | exact LeO.none _
   | refine LeO.ite ?_ ?_
   | refine LeO.bind ?_ (fun _ => ?_)
  ·intro y0 y1 y2 y3 y4 y5 y6 y7
   unfold palaverlaw06_EventRights.j1
   repeat' first
   | (with_reducible exact ih0 _ _ _ _ _ _ _ _ _ _ _ _ _ _ _)
   | (with_reducible exact ih1 _ _ _ _ _ _ _ _)
   | (with_reducible exact event_Content.mono _ _ _ _ _ _)
   | (with_reducible exact event_Encode.mono _ _ _ _ _ _)
   | (with_reducible exact event_Right.mono _ _ _ _ _ _)
   | (with_reducible exact palaverlaw06_awake.mono _)
   | (with_reducible exact palaverref06_Content.mono _ _ _ _ _ _)
   | (with_reducible exact palaverref06_Encode.mono _ _ _ _ _ _)
   | (with_reducible exact palaverref06_Great.mono _ _ _ _ _ _)
   | (with_reducible exact palaverref06_Right.mono _ _ _ _ _ _)
   | (with_reducible exact LeO.refl _)
   | (with_reducible exact LeO.none _)
   | (with_reducible refine LeO.ite ?_ ?_)
   | (with_reducible refine LeO.bind ?_ (fun _ => ?_))
   | exact ih0 _ _ _ _ _ _ _ _ _ _ _ _ _ _ _
   | exact ih1 _ _ _ _ _ _ _ _
   | exact event_Content.mono _ _ _ _ _ _
   | exact event_Encode.mono _ _ _ _ _ _
   | exact event_Right.mono _ _ _ _ _ _
   | exact palaverlaw06_awake.mono _
   | exact palaverref06_Content.mono _ _ _ _ _ _
   | exact palaverref06_Encode.mono _ _ _ _ _ _
   | exact palaverref06_Great.mono _ _ _ _ _ _
   | exact palaverref06_Right.mono _ _ _ _ _ _
   | exact LeO.none _
   | refine LeO.ite ?_ ?_
   | refine LeO.bind ?_ (fun _ => ?_)
theorem palaverlaw06_EventRights.mono : ∀ a0 a1 a2 a3 a4 k, LeO (palaverlaw06_EventRights.f k a0 a1 a2 a3 a4) (palaverlaw06_EventRights.f (k + 1) a0 a1 a2 a3 a4) := by
 intro a0 a1 a2 a3 a4 k
 obtain ⟨ih0, ih1⟩ := palaverlaw06_EventRights.mono_l k
 unfold palaverlaw06_EventRights.f
 repeat' first
  | (with_reducible exact ih0 _ _ _ _ _ _ _ _ _ _ _ _ _ _ _)
  | (with_reducible exact ih1 _ _ _ _ _ _ _ _)
  | (with_reducible exact event_Content.mono _ _ _ _ _ _)
  | (with_reducible exact event_Encode.mono _ _ _ _ _ _)
  | (with_reducible exact event_Right.mono _ _ _ _ _ _)
  | (with_reducible exact palaverlaw06_awake.mono _)
  | (with_reducible exact palaverref06_Content.mono _ _ _ _ _ _)
  | (with_reducible exact palaverref06_Encode.mono _ _ _ _ _ _)
  | (with_reducible exact palaverref06_Great.mono _ _ _ _ _ _)
  | (with_reducible exact palaverref06_Right.mono _ _ _ _ _ _)
  | (with_reducible exact LeO.refl _)
  | (with_reducible exact LeO.none _)
  | (with_reducible refine LeO.ite ?_ ?_)
  | (with_reducible refine LeO.bind ?_ (fun _ => ?_))
  | exact ih0 _ _ _ _ _ _ _ _ _ _ _ _ _ _ _
  | exact ih1 _ _ _ _ _ _ _ _
  | exact event_Content.mono _ _ _ _ _ _
  | exact event_Encode.mono _ _ _ _ _ _
  | exact event_Right.mono _ _ _ _ _ _
  | exact palaverlaw06_awake.mono _
  | exact palaverref06_Content.mono _ _ _ _ _ _
  | exact palaverref06_Encode.mono _ _ _ _ _ _
  | exact palaverref06_Great.mono _ _ _ _ _ _
  | exact palaverref06_Right.mono _ _ _ _ _ _
  | exact LeO.none _
  | refine LeO.ite ?_ ?_
  | refine LeO.bind ?_ (fun _ => ?_)
def palaverlaw06_EventRights.T7 : Bool × List (List Nat × List Nat) := (true, [([], []), ([0], [0]), ([], []), ([2, 1], [2]), ([1, 3], [1, 3]), ([4, 3], [4]), ([5], [5]), ([6, 5], [5, 6]), ([5], [5]), ([8, 5, 5], [5, 8]), ([7, 9, 5], [5, 7, 9]), ([5, 10], [5, 10]), ([11, 9], [11]), ([12], [12]), ([13, 12], [12, 13]), ([12], [12]), ([15, 12, 12], [12, 15]), ([14, 16, 12], [12, 14, 16]), ([12, 17], [12, 17])])
def palaverlaw06_EventRights.B7 : List Nat := [0, 1, 0, 7, 15, 31, 63, 127, 63, 319, 1023, 2047, 4095, 8191, 16383, 8191, 40959, 131071, 262143]
theorem palaverlaw06_EventRights.tab7 : rtab .any (opsOf Tryd.f3 7) = palaverlaw06_EventRights.T7 := by kernel_rfl
theorem palaverlaw06_EventRights.bits7 : waitsOk palaverlaw06_EventRights.T7.2 palaverlaw06_EventRights.B7 = true := by kernel_rfl
set_option maxHeartbeats 64000000 in
set_option maxRecDepth 100000 in
theorem palaverlaw06_EventRights.calls (k : Nat) (a0_0 : Int) (a0_1 : ByteArray) (A0_2 : Option Addr) (c0_2 : Nat) (l0_2 : List ByteArray) (a0_3 : ByteArray) (a0_4 : ByteArray) (r : Bool) (w : World) (hr0_2 : Kd.C Kd.string w A0_2 l0_2.length l0_2) (hc0_2 : l0_2.length ≤ c0_2) (hrG : Kd.C (Kd.int .u32) w (some ⟨0, 0, none⟩) keysL.length keysL) (h : palaverlaw06_EventRights.f k a0_0 a0_1 l0_2 a0_3 a0_4 = some r) :
 Calls Tryd.prog 3 #[.agg #[.int .i64 a0_0, .string a0_1, .slice A0_2 l0_2.length c0_2, .string a0_3, .string a0_4]] w fun e w' => e = .returned (.bool r) ∧ Below w.heap.size w w' := by
 have hu24 := Tryd.underlying24
 have HR0_2 := Aside0.mk hr0_2
 have HC0_2 := Aside0.mk hc0_2
 clear hr0_2 hc0_2
 have HRG := Aside0.mk hrG
 clear hrG
 have HB := Aside0.mk (Below.refl w.heap.size w)
 have H : ((palaverref06_Great.f k a0_0 a0_1 l0_2 a0_3 a0_4).bind fun t291 => (if t291 = true then ((palaverlaw06_awake.f k).bind fun t292 => (some t292)) else ((event_Encode.f k a0_0 a0_1 l0_2 a0_3 a0_4).bind fun bt293 => ((event_Content.f k a0_0 a0_1 l0_2 a0_3 a0_4).bind fun bt295 => ((event_Right.f k a0_0 a0_1 l0_2 a0_3 a0_4).bind fun t298 => ((palaverref06_Right.f k a0_0 a0_1 l0_2 a0_3 a0_4).bind fun t299 => (if (t298 != t299) = true then (palaverlaw06_EventRights.j0 k bt293.1 bt293.2 bt295.1 bt295.2 true a0_0 a0_1 l0_2 a0_3 a0_4 a0_0 a0_1 l0_2 a0_3 (⟨#[]⟩ : ByteArray)) else ((palaverref06_Right.f k a0_0 a0_1 l0_2 a0_3 a0_4).bind fun t300 => (if ((bt293.2 == 0) != t300) = true then (palaverlaw06_EventRights.j0 k bt293.1 bt293.2 bt295.1 bt295.2 true a0_0 a0_1 l0_2 a0_3 a0_4 a0_0 a0_1 l0_2 a0_3 (⟨#[]⟩ : ByteArray)) else ((palaverref06_Right.f k a0_0 a0_1 l0_2 a0_3 (⟨#[]⟩ : ByteArray)).bind fun t301 => (palaverlaw06_EventRights.j0 k bt293.1 bt293.2 bt295.1 bt295.2 ((bt295.2 == 0) != t301) a0_0 a0_1 l0_2 a0_3 a0_4 a0_0 a0_1 l0_2 a0_3 (⟨#[]⟩ : ByteArray)))))))))))) = some r := h
 clear h
 replace H := Option.bind_eq_some_iff.mp H
 obtain ⟨t291, A20, H⟩ := H
 replace H : (if t291 = true then ((palaverlaw06_awake.f k).bind fun t292 => (some t292)) else ((event_Encode.f k a0_0 a0_1 l0_2 a0_3 a0_4).bind fun bt293 => ((event_Content.f k a0_0 a0_1 l0_2 a0_3 a0_4).bind fun bt295 => ((event_Right.f k a0_0 a0_1 l0_2 a0_3 a0_4).bind fun t298 => ((palaverref06_Right.f k a0_0 a0_1 l0_2 a0_3 a0_4).bind fun t299 => (if (t298 != t299) = true then (palaverlaw06_EventRights.j0 k bt293.1 bt293.2 bt295.1 bt295.2 true a0_0 a0_1 l0_2 a0_3 a0_4 a0_0 a0_1 l0_2 a0_3 (⟨#[]⟩ : ByteArray)) else ((palaverref06_Right.f k a0_0 a0_1 l0_2 a0_3 a0_4).bind fun t300 => (if ((bt293.2 == 0) != t300) = true then (palaverlaw06_EventRights.j0 k bt293.1 bt293.2 bt295.1 bt295.2 true a0_0 a0_1 l0_2 a0_3 a0_4 a0_0 a0_1 l0_2 a0_3 (⟨#[]⟩ : ByteArray)) else ((palaverref06_Right.f k a0_0 a0_1 l0_2 a0_3 (⟨#[]⟩ : ByteArray)).bind fun t301 => (palaverlaw06_EventRights.j0 k bt293.1 bt293.2 bt295.1 bt295.2 ((bt295.2 == 0) != t301) a0_0 a0_1 l0_2 a0_3 a0_4 a0_0 a0_1 l0_2 a0_3 (⟨#[]⟩ : ByteArray))))))))))) = some r := H
 have A2 := Aside0.mk A20
 clear A20
 by_cases c3 : t291 = true
 ·subst c3
  have H1 : ((palaverlaw06_awake.f k).bind fun t292 => (some t292)) = some r := by rw [if_pos rfl] at H; exact H
  clear H
  have H := H1
  clear H1
  replace H := Option.bind_eq_some_iff.mp H
  obtain ⟨t292, A40, H⟩ := H
  replace H : (some t292) = some r := H
  have A4 := Aside0.mk A40
  clear A40
  obtain rfl := Option.some.inj H
  go_enter Tryd.func3, Tryd.ntmps3
  go_wp2_with (first | ((with_reducible refine gate_dst (N := 1) rfl ?_); refine box_event ?hg (N := 1) ?hd (cs := #[.int .i64 a0_0, .string a0_1, .slice A0_2 l0_2.length c0_2, .string a0_3, .string a0_4]) (t := 24) ?hr ?_; (case hd => rfl); (case hg => rfl); (case hr => first | (go_simp; done) | (go_simp; rfl)); intro gb290 hg w5 hbox hb; have n0_ := Aside0.mk (below_step (by repeat (first | (with_reducible first | exact HB.out | apply below_alloc | apply pw_below_drewN | apply below_drew1) | exact HB.out)) hb); have n1_ := Aside0.mk (hbox); have n2_ := Aside0.mk ((by rw [hg]; exact (below_size (by repeat (first | (with_reducible first | exact HB.out | apply below_alloc | apply pw_below_drewN | apply below_drew1) | exact HB.out))) : w.heap.size ≤ gb290)); have n3_ := Aside0.mk ((by rw [hg]; exact (below_size (by repeat (first | (with_reducible first | exact HB.out | apply below_alloc | apply pw_below_drewN | apply below_drew1) | exact HB.out))) : w.heap.size ≤ gb290)); clear HB; have HB := n0_; have BK290 := n1_; have GW290 := n2_; have GE290 := n3_; clear n0_ n1_ n2_ n3_; clear hb hbox hg; have hcz6_0 : w5.cell? ⟨gb290, 0, none⟩ = some (.int .i64 a0_0) := (blk_cell BK290.out 0).trans rfl; have hcz6_1 : w5.cell? ⟨gb290, 1, none⟩ = some (.string a0_1) := (blk_cell BK290.out 1).trans rfl; have hcz6_2 : w5.cell? ⟨gb290, 2, none⟩ = some (.slice A0_2 l0_2.length c0_2) := (blk_cell BK290.out 2).trans rfl; have hcz6_3 : w5.cell? ⟨gb290, 3, none⟩ = some (.string a0_3) := (blk_cell BK290.out 3).trans rfl; have hcz6_4 : w5.cell? ⟨gb290, 4, none⟩ = some (.string a0_4) := (blk_cell BK290.out 4).trans rfl; have hfz6_0 := blk_frozen BK290.out 0; have hfz6_1 := blk_frozen BK290.out 1; have hfz6_2 := blk_frozen BK290.out 2; have hfz6_3 := blk_frozen BK290.out 3; have hfz6_4 := blk_frozen BK290.out 4) | ((with_reducible refine gate_callee (f := 9) rfl ?_); refine goesL_ (some 9) rfl rfl Tryd.func9 (by kernel_rfl) rfl #[.agg #[.int .i64 a0_0, .string a0_1, .slice A0_2 l0_2.length c0_2, .string a0_3, .string a0_4]] rfl (by (try simp only [List.map_toArray, List.map_cons, List.map_nil]); first | done | rfl | (simp only [List.length_drop, List.length_take]; rfl)) ?_; (with_reducible refine (palaverref06_Great.calls k a0_0 a0_1 _ _ l0_2 a0_3 a0_4 true _ ?side1 ?side2 A2.out).mono ?_); (case side1 => repeat (first | exact (Kd.C_below HR0_2.out HB.out) | (with_reducible refine Kd.C_alloc ?_ _) | (with_reducible refine Kd.C_drewN ?_ _) | (with_reducible refine Kd.C_drew ?_))); (case side2 => exact HC0_2.out); rintro e w7 ⟨rfl, hb⟩; refine ⟨_, rfl, ?_⟩; have n0_ := Aside0.mk (blk_below (g := gb290) (o := .cells #[.int .i64 a0_0, .string a0_1, .slice A0_2 l0_2.length c0_2, .string a0_3, .string a0_4] 24 (0, 0)) (by (with_reducible repeat (first | refine blk_drewN ?_ _ | refine blk_drew ?_ | refine blk_alloc ?_ _)); exact BK290.out) hb); have n1_ := Aside0.mk (below_step (by repeat (first | (with_reducible first | exact HB.out | apply below_alloc | apply pw_below_drewN | apply below_drew1 | refine below_set ?_ GE290.out) | exact HB.out)) hb); clear BK290; clear HB; have BK290 := n0_; have HB := n1_; clear n0_ n1_; (try clear hb); (try clear hb2); (try clear hk); (try clear hi)) | ((with_reducible refine gate_callee (f := 10) rfl ?_); refine goesL_ (some 10) rfl rfl Tryd.func10 (by kernel_rfl) rfl #[] rfl (by (try simp only [List.map_toArray, List.map_cons, List.map_nil]); first | done | rfl | (simp only [List.length_drop, List.length_take]; rfl)) ?_; (with_reducible refine (palaverlaw06_awake.calls k  t292 _ ?side1 A4.out).mono ?_); (case side1 => repeat (first | exact (Kd.C_below HRG.out HB.out) | (with_reducible refine Kd.C_alloc ?_ _) | (with_reducible refine Kd.C_drewN ?_ _) | (with_reducible refine Kd.C_drew ?_))); rintro e w8 ⟨rfl, hb⟩; refine ⟨_, rfl, ?_⟩; have n0_ := Aside0.mk (blk_below (g := gb290) (o := .cells #[.int .i64 a0_0, .string a0_1, .slice A0_2 l0_2.length c0_2, .string a0_3, .string a0_4] 24 (0, 0)) (by (with_reducible repeat (first | refine blk_drewN ?_ _ | refine blk_drew ?_ | refine blk_alloc ?_ _)); exact BK290.out) hb); have n1_ := Aside0.mk (below_step (by repeat (first | (with_reducible first | exact HB.out | apply below_alloc | apply pw_below_drewN | apply below_drew1 | refine below_set ?_ GE290.out) | exact HB.out)) hb); clear BK290; clear HB; have BK290 := n0_; have HB := n1_; clear n0_ n1_; (try clear hb); (try clear hb2); (try clear hk); (try clear hi)))
  go_ret
  exact ⟨by first | rfl | (simp [errW_none, errW_some] <;> rfl) | (simp [*, errW_none, errW_some] <;> rfl), by repeat (first | (with_reducible first | exact HB.out | apply below_alloc | apply pw_below_drewN | apply below_drew1 | refine below_set ?_ GE290.out) | exact HB.out)⟩
 ·replace c3 := Bool.eq_false_iff.mpr c3
  subst c3
  have H1 : ((event_Encode.f k a0_0 a0_1 l0_2 a0_3 a0_4).bind fun bt293 => ((event_Content.f k a0_0 a0_1 l0_2 a0_3 a0_4).bind fun bt295 => ((event_Right.f k a0_0 a0_1 l0_2 a0_3 a0_4).bind fun t298 => ((palaverref06_Right.f k a0_0 a0_1 l0_2 a0_3 a0_4).bind fun t299 => (if (t298 != t299) = true then (palaverlaw06_EventRights.j0 k bt293.1 bt293.2 bt295.1 bt295.2 true a0_0 a0_1 l0_2 a0_3 a0_4 a0_0 a0_1 l0_2 a0_3 (⟨#[]⟩ : ByteArray)) else ((palaverref06_Right.f k a0_0 a0_1 l0_2 a0_3 a0_4).bind fun t300 => (if ((bt293.2 == 0) != t300) = true then (palaverlaw06_EventRights.j0 k bt293.1 bt293.2 bt295.1 bt295.2 true a0_0 a0_1 l0_2 a0_3 a0_4 a0_0 a0_1 l0_2 a0_3 (⟨#[]⟩ : ByteArray)) else ((palaverref06_Right.f k a0_0 a0_1 l0_2 a0_3 (⟨#[]⟩ : ByteArray)).bind fun t301 => (palaverlaw06_EventRights.j0 k bt293.1 bt293.2 bt295.1 bt295.2 ((bt295.2 == 0) != t301) a0_0 a0_1 l0_2 a0_3 a0_4 a0_0 a0_1 l0_2 a0_3 (⟨#[]⟩ : ByteArray)))))))))) = some r := by rw [if_neg (show ¬ (false = true) by decide)] at H; exact H
  clear H
  have H := H1
  clear H1
  replace H := Option.bind_eq_some_iff.mp H
  obtain ⟨⟨t293, t294⟩, A90, H⟩ := H
  replace H : ((event_Content.f k a0_0 a0_1 l0_2 a0_3 a0_4).bind fun bt295 => ((event_Right.f k a0_0 a0_1 l0_2 a0_3 a0_4).bind fun t298 => ((palaverref06_Right.f k a0_0 a0_1 l0_2 a0_3 a0_4).bind fun t299 => (if (t298 != t299) = true then (palaverlaw06_EventRights.j0 k t293 t294 bt295.1 bt295.2 true a0_0 a0_1 l0_2 a0_3 a0_4 a0_0 a0_1 l0_2 a0_3 (⟨#[]⟩ : ByteArray)) else ((palaverref06_Right.f k a0_0 a0_1 l0_2 a0_3 a0_4).bind fun t300 => (if ((t294 == 0) != t300) = true then (palaverlaw06_EventRights.j0 k t293 t294 bt295.1 bt295.2 true a0_0 a0_1 l0_2 a0_3 a0_4 a0_0 a0_1 l0_2 a0_3 (⟨#[]⟩ : ByteArray)) else ((palaverref06_Right.f k a0_0 a0_1 l0_2 a0_3 (⟨#[]⟩ : ByteArray)).bind fun t301 => (palaverlaw06_EventRights.j0 k t293 t294 bt295.1 bt295.2 ((bt295.2 == 0) != t301) a0_0 a0_1 l0_2 a0_3 a0_4 a0_0 a0_1 l0_2 a0_3 (⟨#[]⟩ : ByteArray))))))))) = some r := H
  have A9 := Aside0.mk A90
  clear A90
  replace H := Option.bind_eq_some_iff.mp H
  obtain ⟨⟨t295, t296⟩, A100, H⟩ := H
  replace H : ((event_Right.f k a0_0 a0_1 l0_2 a0_3 a0_4).bind fun t298 => ((palaverref06_Right.f k a0_0 a0_1 l0_2 a0_3 a0_4).bind fun t299 => (if (t298 != t299) = true then (palaverlaw06_EventRights.j0 k t293 t294 t295 t296 true a0_0 a0_1 l0_2 a0_3 a0_4 a0_0 a0_1 l0_2 a0_3 (⟨#[]⟩ : ByteArray)) else ((palaverref06_Right.f k a0_0 a0_1 l0_2 a0_3 a0_4).bind fun t300 => (if ((t294 == 0) != t300) = true then (palaverlaw06_EventRights.j0 k t293 t294 t295 t296 true a0_0 a0_1 l0_2 a0_3 a0_4 a0_0 a0_1 l0_2 a0_3 (⟨#[]⟩ : ByteArray)) else ((palaverref06_Right.f k a0_0 a0_1 l0_2 a0_3 (⟨#[]⟩ : ByteArray)).bind fun t301 => (palaverlaw06_EventRights.j0 k t293 t294 t295 t296 ((t296 == 0) != t301) a0_0 a0_1 l0_2 a0_3 a0_4 a0_0 a0_1 l0_2 a0_3 (⟨#[]⟩ : ByteArray)))))))) = some r := H
  have A10 := Aside0.mk A100
  clear A100
  have HC11 := Aside0.mk H
  clear H
  go_enter Tryd.func3, Tryd.ntmps3
  go_upto_region 7 with (first | ((with_reducible refine gate_dst (N := 1) rfl ?_); refine box_event ?hg (N := 1) ?hd (cs := #[.int .i64 a0_0, .string a0_1, .slice A0_2 l0_2.length c0_2, .string a0_3, .string a0_4]) (t := 24) ?hr ?_; (case hd => rfl); (case hg => rfl); (case hr => first | (go_simp; done) | (go_simp; rfl)); intro gb290 hg w12 hbox hb; have n0_ := Aside0.mk (below_step (by repeat (first | (with_reducible first | exact HB.out | apply below_alloc | apply pw_below_drewN | apply below_drew1) | exact HB.out)) hb); have n1_ := Aside0.mk (hbox); have n2_ := Aside0.mk ((by rw [hg]; exact (below_size (by repeat (first | (with_reducible first | exact HB.out | apply below_alloc | apply pw_below_drewN | apply below_drew1) | exact HB.out))) : w.heap.size ≤ gb290)); have n3_ := Aside0.mk ((by rw [hg]; exact (below_size (by repeat (first | (with_reducible first | exact HB.out | apply below_alloc | apply pw_below_drewN | apply below_drew1) | exact HB.out))) : w.heap.size ≤ gb290)); clear HB; have HB := n0_; have BK290 := n1_; have GW290 := n2_; have GE290 := n3_; clear n0_ n1_ n2_ n3_; clear hb hbox hg; have hcz13_0 : w12.cell? ⟨gb290, 0, none⟩ = some (.int .i64 a0_0) := (blk_cell BK290.out 0).trans rfl; have hcz13_1 : w12.cell? ⟨gb290, 1, none⟩ = some (.string a0_1) := (blk_cell BK290.out 1).trans rfl; have hcz13_2 : w12.cell? ⟨gb290, 2, none⟩ = some (.slice A0_2 l0_2.length c0_2) := (blk_cell BK290.out 2).trans rfl; have hcz13_3 : w12.cell? ⟨gb290, 3, none⟩ = some (.string a0_3) := (blk_cell BK290.out 3).trans rfl; have hcz13_4 : w12.cell? ⟨gb290, 4, none⟩ = some (.string a0_4) := (blk_cell BK290.out 4).trans rfl; have hfz13_0 := blk_frozen BK290.out 0; have hfz13_1 := blk_frozen BK290.out 1; have hfz13_2 := blk_frozen BK290.out 2; have hfz13_3 := blk_frozen BK290.out 3; have hfz13_4 := blk_frozen BK290.out 4) | ((with_reducible refine gate_callee (f := 9) rfl ?_); refine goesL_ (some 9) rfl rfl Tryd.func9 (by kernel_rfl) rfl #[.agg #[.int .i64 a0_0, .string a0_1, .slice A0_2 l0_2.length c0_2, .string a0_3, .string a0_4]] rfl (by (try simp only [List.map_toArray, List.map_cons, List.map_nil]); first | done | rfl | (simp only [List.length_drop, List.length_take]; rfl)) ?_; (with_reducible refine (palaverref06_Great.calls k a0_0 a0_1 _ _ l0_2 a0_3 a0_4 false _ ?side1 ?side2 A2.out).mono ?_); (case side1 => repeat (first | exact (Kd.C_below HR0_2.out HB.out) | (with_reducible refine Kd.C_alloc ?_ _) | (with_reducible refine Kd.C_drewN ?_ _) | (with_reducible refine Kd.C_drew ?_))); (case side2 => exact HC0_2.out); rintro e w14 ⟨rfl, hb⟩; refine ⟨_, rfl, ?_⟩; have n0_ := Aside0.mk (blk_below (g := gb290) (o := .cells #[.int .i64 a0_0, .string a0_1, .slice A0_2 l0_2.length c0_2, .string a0_3, .string a0_4] 24 (0, 0)) (by (with_reducible repeat (first | refine blk_drewN ?_ _ | refine blk_drew ?_ | refine blk_alloc ?_ _)); exact BK290.out) hb); have n1_ := Aside0.mk (below_step (by repeat (first | (with_reducible first | exact HB.out | apply below_alloc | apply pw_below_drewN | apply below_drew1 | refine below_set ?_ GE290.out) | exact HB.out)) hb); clear BK290; clear HB; have BK290 := n0_; have HB := n1_; clear n0_ n1_; (try clear hb); (try clear hb2); (try clear hk); (try clear hi); have hcz15_0 : w14.cell? ⟨gb290, 0, none⟩ = some (.int .i64 a0_0) := (blk_cell BK290.out 0).trans rfl; have hcz15_1 : w14.cell? ⟨gb290, 1, none⟩ = some (.string a0_1) := (blk_cell BK290.out 1).trans rfl; have hcz15_2 : w14.cell? ⟨gb290, 2, none⟩ = some (.slice A0_2 l0_2.length c0_2) := (blk_cell BK290.out 2).trans rfl; have hcz15_3 : w14.cell? ⟨gb290, 3, none⟩ = some (.string a0_3) := (blk_cell BK290.out 3).trans rfl; have hcz15_4 : w14.cell? ⟨gb290, 4, none⟩ = some (.string a0_4) := (blk_cell BK290.out 4).trans rfl; have hfz15_0 := blk_frozen BK290.out 0; have hfz15_1 := blk_frozen BK290.out 1; have hfz15_2 := blk_frozen BK290.out 2; have hfz15_3 := blk_frozen BK290.out 3; have hfz15_4 := blk_frozen BK290.out 4) | ((with_reducible refine gate_callee (f := 11) rfl ?_); refine goesL_ (some 13) rfl rfl Tryd.func11 (by kernel_rfl) rfl #[.agg #[.int .i64 a0_0, .string a0_1, .slice A0_2 l0_2.length c0_2, .string a0_3, .string a0_4]] rfl (by (try simp only [List.map_toArray, List.map_cons, List.map_nil]); first | done | rfl | (simp only [List.length_drop, List.length_take]; rfl)) ?_; (with_reducible refine (event_Encode.calls k a0_0 a0_1 _ _ l0_2 a0_3 a0_4 t293 t294 _ ?side1 ?side2 A9.out).mono ?_); (case side1 => repeat (first | exact (Kd.C_below HR0_2.out HB.out) | (with_reducible refine Kd.C_alloc ?_ _) | (with_reducible refine Kd.C_drewN ?_ _) | (with_reducible refine Kd.C_drew ?_))); (case side2 => exact HC0_2.out); rintro e w16 ⟨rfl, hb⟩; refine ⟨_, rfl, ?_⟩; have n0_ := Aside0.mk (blk_below (g := gb290) (o := .cells #[.int .i64 a0_0, .string a0_1, .slice A0_2 l0_2.length c0_2, .string a0_3, .string a0_4] 24 (0, 0)) (by (with_reducible repeat (first | refine blk_drewN ?_ _ | refine blk_drew ?_ | refine blk_alloc ?_ _)); exact BK290.out) hb); have n1_ := Aside0.mk (below_step (by repeat (first | (with_reducible first | exact HB.out | apply below_alloc | apply pw_below_drewN | apply below_drew1 | refine below_set ?_ GE290.out) | exact HB.out)) hb); clear BK290; clear HB; have BK290 := n0_; have HB := n1_; clear n0_ n1_; (try clear hb); (try clear hb2); (try clear hk); (try clear hi); have hcz17_0 : w16.cell? ⟨gb290, 0, none⟩ = some (.int .i64 a0_0) := (blk_cell BK290.out 0).trans rfl; have hcz17_1 : w16.cell? ⟨gb290, 1, none⟩ = some (.string a0_1) := (blk_cell BK290.out 1).trans rfl; have hcz17_2 : w16.cell? ⟨gb290, 2, none⟩ = some (.slice A0_2 l0_2.length c0_2) := (blk_cell BK290.out 2).trans rfl; have hcz17_3 : w16.cell? ⟨gb290, 3, none⟩ = some (.string a0_3) := (blk_cell BK290.out 3).trans rfl; have hcz17_4 : w16.cell? ⟨gb290, 4, none⟩ = some (.string a0_4) := (blk_cell BK290.out 4).trans rfl; have hfz17_0 := blk_frozen BK290.out 0; have hfz17_1 := blk_frozen BK290.out 1; have hfz17_2 := blk_frozen BK290.out 2; have hfz17_3 := blk_frozen BK290.out 3; have hfz17_4 := blk_frozen BK290.out 4) | ((with_reducible refine gate_callee (f := 12) rfl ?_); refine goesL_ (some 18) rfl rfl Tryd.func12 (by kernel_rfl) rfl #[.agg #[.int .i64 a0_0, .string a0_1, .slice A0_2 l0_2.length c0_2, .string a0_3, .string a0_4]] rfl (by (try simp only [List.map_toArray, List.map_cons, List.map_nil]); first | done | rfl | (simp only [List.length_drop, List.length_take]; rfl)) ?_; (with_reducible refine (event_Content.calls k a0_0 a0_1 _ _ l0_2 a0_3 a0_4 t295 t296 _ ?side1 ?side2 A10.out).mono ?_); (case side1 => repeat (first | exact (Kd.C_below HR0_2.out HB.out) | (with_reducible refine Kd.C_alloc ?_ _) | (with_reducible refine Kd.C_drewN ?_ _) | (with_reducible refine Kd.C_drew ?_))); (case side2 => exact HC0_2.out); rintro e w18 ⟨rfl, hb⟩; refine ⟨_, rfl, ?_⟩; have n0_ := Aside0.mk (blk_below (g := gb290) (o := .cells #[.int .i64 a0_0, .string a0_1, .slice A0_2 l0_2.length c0_2, .string a0_3, .string a0_4] 24 (0, 0)) (by (with_reducible repeat (first | refine blk_drewN ?_ _ | refine blk_drew ?_ | refine blk_alloc ?_ _)); exact BK290.out) hb); have n1_ := Aside0.mk (below_step (by repeat (first | (with_reducible first | exact HB.out | apply below_alloc | apply pw_below_drewN | apply below_drew1 | refine below_set ?_ GE290.out) | exact HB.out)) hb); clear BK290; clear HB; have BK290 := n0_; have HB := n1_; clear n0_ n1_; (try clear hb); (try clear hb2); (try clear hk); (try clear hi); have hcz19_0 : w18.cell? ⟨gb290, 0, none⟩ = some (.int .i64 a0_0) := (blk_cell BK290.out 0).trans rfl; have hcz19_1 : w18.cell? ⟨gb290, 1, none⟩ = some (.string a0_1) := (blk_cell BK290.out 1).trans rfl; have hcz19_2 : w18.cell? ⟨gb290, 2, none⟩ = some (.slice A0_2 l0_2.length c0_2) := (blk_cell BK290.out 2).trans rfl; have hcz19_3 : w18.cell? ⟨gb290, 3, none⟩ = some (.string a0_3) := (blk_cell BK290.out 3).trans rfl; have hcz19_4 : w18.cell? ⟨gb290, 4, none⟩ = some (.string a0_4) := (blk_cell BK290.out 4).trans rfl; have hfz19_0 := blk_frozen BK290.out 0; have hfz19_1 := blk_frozen BK290.out 1; have hfz19_2 := blk_frozen BK290.out 2; have hfz19_3 := blk_frozen BK290.out 3; have hfz19_4 := blk_frozen BK290.out 4) | ((with_reducible refine gate_dst (N := 7) rfl ?_); refine box_event ?hg (N := 7) ?hd (cs := #[.int .i64 0, .string (⟨#[]⟩ : ByteArray), .slice none 0 0, .string (⟨#[]⟩ : ByteArray), .string (⟨#[]⟩ : ByteArray)]) (t := 24) ?hr ?_; (case hd => rfl); (case hg => rfl); (case hr => first | (go_simp; done) | (go_simp; rfl)); intro gb297 hg w20 hbox hb; have n0_ := Aside0.mk (blk_below (g := gb290) (o := .cells #[.int .i64 a0_0, .string a0_1, .slice A0_2 l0_2.length c0_2, .string a0_3, .string a0_4] 24 (0, 0)) (by (with_reducible repeat (first | refine blk_drewN ?_ _ | refine blk_drew ?_ | refine blk_alloc ?_ _)); exact BK290.out) hb); have n1_ := Aside0.mk (below_step (by repeat (first | (with_reducible first | exact HB.out | apply below_alloc | apply pw_below_drewN | apply below_drew1 | refine below_set ?_ GE290.out) | exact HB.out)) hb); have n2_ := Aside0.mk (hbox); have n3_ := Aside0.mk ((by rw [hg]; exact (below_size (by repeat (first | (with_reducible first | exact HB.out | apply below_alloc | apply pw_below_drewN | apply below_drew1 | refine below_set ?_ GE290.out) | exact HB.out))) : w.heap.size ≤ gb297)); have n4_ := Aside0.mk ((by rw [hg]; exact (below_size (by repeat (first | (with_reducible first | exact HB.out | apply below_alloc | apply pw_below_drewN | apply below_drew1 | refine below_set ?_ GE290.out) | exact HB.out))) : w.heap.size ≤ gb297)); have n5_ := Aside0.mk ((by rw [hg]; exact Nat.ne_of_lt (blk_lt (g := gb290) (o := .cells #[.int .i64 a0_0, .string a0_1, .slice A0_2 l0_2.length c0_2, .string a0_3, .string a0_4] 24 (0, 0)) (by (with_reducible repeat (first | refine blk_drewN ?_ _ | refine blk_drew ?_ | refine blk_alloc ?_ _)); exact BK290.out)) : gb290 ≠ gb297)); have n6_ := Aside0.mk ((by rw [hg]; exact Nat.ne_of_gt (blk_lt (g := gb290) (o := .cells #[.int .i64 a0_0, .string a0_1, .slice A0_2 l0_2.length c0_2, .string a0_3, .string a0_4] 24 (0, 0)) (by (with_reducible repeat (first | refine blk_drewN ?_ _ | refine blk_drew ?_ | refine blk_alloc ?_ _)); exact BK290.out)) : gb297 ≠ gb290)); clear BK290; clear HB; have BK290 := n0_; have HB := n1_; have BK297 := n2_; have GW297 := n3_; have GE297 := n4_; have NB290_297 := n5_; have NB297_290 := n6_; clear n0_ n1_ n2_ n3_ n4_ n5_ n6_; clear hb hbox hg; have hnb21 := NB297_290.out; have hnc21 := NB290_297.out; have hcz22_0 : w20.cell? ⟨gb297, 0, none⟩ = some (.int .i64 0) := (blk_cell BK297.out 0).trans rfl; have hcz22_1 : w20.cell? ⟨gb297, 1, none⟩ = some (.string (⟨#[]⟩ : ByteArray)) := (blk_cell BK297.out 1).trans rfl; have hcz22_2 : w20.cell? ⟨gb297, 2, none⟩ = some (.slice none 0 0) := (blk_cell BK297.out 2).trans rfl; have hcz22_3 : w20.cell? ⟨gb297, 3, none⟩ = some (.string (⟨#[]⟩ : ByteArray)) := (blk_cell BK297.out 3).trans rfl; have hcz22_4 : w20.cell? ⟨gb297, 4, none⟩ = some (.string (⟨#[]⟩ : ByteArray)) := (blk_cell BK297.out 4).trans rfl; have hfz22_0 := blk_frozen BK297.out 0; have hfz22_1 := blk_frozen BK297.out 1; have hfz22_2 := blk_frozen BK297.out 2; have hfz22_3 := blk_frozen BK297.out 3; have hfz22_4 := blk_frozen BK297.out 4))
  (try simp only [Act.put, List.setIfInBounds_toArray, List.set_cons_zero, List.set_cons_succ])
  go_cut [41] (fun v41 wc => ∃ (kq : Nat) (x41_10 : Bool), v41 = .bool x41_10 ∧ Aside0 (palaverlaw06_EventRights.j0 kq t293 t294 t295 t296 x41_10 a0_0 a0_1 l0_2 a0_3 a0_4 a0_0 a0_1 l0_2 a0_3 (⟨#[]⟩ : ByteArray) = some r) ∧ Aside0 (kq ≤ k) ∧ Aside0 (wc.heap[gb290]? = some (.cells #[.int .i64 a0_0, .string a0_1, (.slice A0_2 l0_2.length c0_2), .string a0_3, .string a0_4] 24 (0, 0))) ∧ Aside0 (wc.heap[gb297]? = some (.cells #[.int .i64 a0_0, .string a0_1, (.slice A0_2 l0_2.length c0_2), .string a0_3, .string (⟨#[]⟩ : ByteArray)] 24 (0, 0))) ∧ Aside0 (Below w.heap.size w wc))
  case first =>
   have H := HC11.out
   clear HC11
   replace H := Option.bind_eq_some_iff.mp H
   obtain ⟨t298, A230, H⟩ := H
   replace H : ((palaverref06_Right.f k a0_0 a0_1 l0_2 a0_3 a0_4).bind fun t299 => (if (t298 != t299) = true then (palaverlaw06_EventRights.j0 k t293 t294 t295 t296 true a0_0 a0_1 l0_2 a0_3 a0_4 a0_0 a0_1 l0_2 a0_3 (⟨#[]⟩ : ByteArray)) else ((palaverref06_Right.f k a0_0 a0_1 l0_2 a0_3 a0_4).bind fun t300 => (if ((t294 == 0) != t300) = true then (palaverlaw06_EventRights.j0 k t293 t294 t295 t296 true a0_0 a0_1 l0_2 a0_3 a0_4 a0_0 a0_1 l0_2 a0_3 (⟨#[]⟩ : ByteArray)) else ((palaverref06_Right.f k a0_0 a0_1 l0_2 a0_3 (⟨#[]⟩ : ByteArray)).bind fun t301 => (palaverlaw06_EventRights.j0 k t293 t294 t295 t296 ((t296 == 0) != t301) a0_0 a0_1 l0_2 a0_3 a0_4 a0_0 a0_1 l0_2 a0_3 (⟨#[]⟩ : ByteArray))))))) = some r := H
   have A23 := Aside0.mk A230
   clear A230
   replace H := Option.bind_eq_some_iff.mp H
   obtain ⟨t299, A240, H⟩ := H
   replace H : (if (t298 != t299) = true then (palaverlaw06_EventRights.j0 k t293 t294 t295 t296 true a0_0 a0_1 l0_2 a0_3 a0_4 a0_0 a0_1 l0_2 a0_3 (⟨#[]⟩ : ByteArray)) else ((palaverref06_Right.f k a0_0 a0_1 l0_2 a0_3 a0_4).bind fun t300 => (if ((t294 == 0) != t300) = true then (palaverlaw06_EventRights.j0 k t293 t294 t295 t296 true a0_0 a0_1 l0_2 a0_3 a0_4 a0_0 a0_1 l0_2 a0_3 (⟨#[]⟩ : ByteArray)) else ((palaverref06_Right.f k a0_0 a0_1 l0_2 a0_3 (⟨#[]⟩ : ByteArray)).bind fun t301 => (palaverlaw06_EventRights.j0 k t293 t294 t295 t296 ((t296 == 0) != t301) a0_0 a0_1 l0_2 a0_3 a0_4 a0_0 a0_1 l0_2 a0_3 (⟨#[]⟩ : ByteArray)))))) = some r := H
   have A24 := Aside0.mk A240
   clear A240
   by_cases c25 : (t298 != t299) = true
   ·rw [if_pos c25] at H
    have c25b0 : (t298 != t299) = true := c25
    (try (have c25b1 : decide (t298 = t299) = false := by simpa using c25))
    (try (have c25b2 : (t298 == t299) = false := by simpa using c25))
    (try (have c25b3 : ¬ (t298 = t299) := by simpa using c25))
    clear c25
    (first | rw [c25b0] | (simp only [i64_w, i32_w]; rw [c25b0]) | skip)
    have H' := Aside0.mk H
    clear H
    try go_wp2
    have n0_ : Aside0 (((((((w20.setCell ⟨gb297, 0, none⟩ (.int .i64 a0_0)).setCell ⟨gb297, 1, none⟩ (.string a0_1)).setCell ⟨gb297, 2, none⟩ (.slice A0_2 l0_2.length c0_2)).setCell ⟨gb297, 3, none⟩ (.string a0_3)).setCell ⟨gb297, 4, none⟩ (.string a0_4)).setCell ⟨gb297, 4, none⟩ (.string (⟨#[]⟩ : ByteArray))).heap[gb290]? = some (.cells #[.int .i64 a0_0, .string a0_1, .slice A0_2 l0_2.length c0_2, .string a0_3, .string a0_4] 24 (0, 0))) := ⟨by (with_reducible repeat (first | refine blk_drewN ?_ _ | refine blk_drew ?_ | refine blk_alloc ?_ _)); refine blk_far ?_ NB290_297.out _; (with_reducible repeat (first | refine blk_drewN ?_ _ | refine blk_drew ?_ | refine blk_alloc ?_ _)); refine blk_far ?_ NB290_297.out _; (with_reducible repeat (first | refine blk_drewN ?_ _ | refine blk_drew ?_ | refine blk_alloc ?_ _)); refine blk_far ?_ NB290_297.out _; (with_reducible repeat (first | refine blk_drewN ?_ _ | refine blk_drew ?_ | refine blk_alloc ?_ _)); refine blk_far ?_ NB290_297.out _; (with_reducible repeat (first | refine blk_drewN ?_ _ | refine blk_drew ?_ | refine blk_alloc ?_ _)); refine blk_far ?_ NB290_297.out _; (with_reducible repeat (first | refine blk_drewN ?_ _ | refine blk_drew ?_ | refine blk_alloc ?_ _)); refine blk_far ?_ NB290_297.out _; (with_reducible repeat (first | refine blk_drewN ?_ _ | refine blk_drew ?_ | refine blk_alloc ?_ _)); exact BK290.out⟩
    have n1_ : Aside0 (((((((w20.setCell ⟨gb297, 0, none⟩ (.int .i64 a0_0)).setCell ⟨gb297, 1, none⟩ (.string a0_1)).setCell ⟨gb297, 2, none⟩ (.slice A0_2 l0_2.length c0_2)).setCell ⟨gb297, 3, none⟩ (.string a0_3)).setCell ⟨gb297, 4, none⟩ (.string a0_4)).setCell ⟨gb297, 4, none⟩ (.string (⟨#[]⟩ : ByteArray))).heap[gb297]? = some (.cells #[.int .i64 a0_0, .string a0_1, .slice A0_2 l0_2.length c0_2, .string a0_3, .string (⟨#[]⟩ : ByteArray)] 24 (0, 0))) := ⟨by (with_reducible repeat (first | refine blk_drewN ?_ _ | refine blk_drew ?_ | refine blk_alloc ?_ _)); refine blk_put (cs := #[.int .i64 a0_0, .string a0_1, .slice A0_2 l0_2.length c0_2, .string a0_3, .string a0_4]) ?_ 4 _ rfl; (with_reducible repeat (first | refine blk_drewN ?_ _ | refine blk_drew ?_ | refine blk_alloc ?_ _)); refine blk_put (cs := #[.int .i64 a0_0, .string a0_1, .slice A0_2 l0_2.length c0_2, .string a0_3, .string (⟨#[]⟩ : ByteArray)]) ?_ 4 _ rfl; (with_reducible repeat (first | refine blk_drewN ?_ _ | refine blk_drew ?_ | refine blk_alloc ?_ _)); refine blk_put (cs := #[.int .i64 a0_0, .string a0_1, .slice A0_2 l0_2.length c0_2, .string (⟨#[]⟩ : ByteArray), .string (⟨#[]⟩ : ByteArray)]) ?_ 3 _ rfl; (with_reducible repeat (first | refine blk_drewN ?_ _ | refine blk_drew ?_ | refine blk_alloc ?_ _)); refine blk_put (cs := #[.int .i64 a0_0, .string a0_1, .slice none 0 0, .string (⟨#[]⟩ : ByteArray), .string (⟨#[]⟩ : ByteArray)]) ?_ 2 _ rfl; (with_reducible repeat (first | refine blk_drewN ?_ _ | refine blk_drew ?_ | refine blk_alloc ?_ _)); refine blk_put (cs := #[.int .i64 a0_0, .string (⟨#[]⟩ : ByteArray), .slice none 0 0, .string (⟨#[]⟩ : ByteArray), .string (⟨#[]⟩ : ByteArray)]) ?_ 1 _ rfl; (with_reducible repeat (first | refine blk_drewN ?_ _ | refine blk_drew ?_ | refine blk_alloc ?_ _)); refine blk_put (cs := #[.int .i64 0, .string (⟨#[]⟩ : ByteArray), .slice none 0 0, .string (⟨#[]⟩ : ByteArray), .string (⟨#[]⟩ : ByteArray)]) ?_ 0 _ rfl; (with_reducible repeat (first | refine blk_drewN ?_ _ | refine blk_drew ?_ | refine blk_alloc ?_ _)); exact BK297.out⟩
    have n2_ : Aside0 (Below w.heap.size w ((((((w20.setCell ⟨gb297, 0, none⟩ (.int .i64 a0_0)).setCell ⟨gb297, 1, none⟩ (.string a0_1)).setCell ⟨gb297, 2, none⟩ (.slice A0_2 l0_2.length c0_2)).setCell ⟨gb297, 3, none⟩ (.string a0_3)).setCell ⟨gb297, 4, none⟩ (.string a0_4)).setCell ⟨gb297, 4, none⟩ (.string (⟨#[]⟩ : ByteArray)))) := ⟨by repeat (first | (with_reducible first | exact HB.out | apply below_alloc | apply pw_below_drewN | apply below_drew1 | refine below_set ?_ GE290.out | refine below_set ?_ GE297.out) | exact HB.out)⟩
    (try clear BK290)
    (try clear BK297)
    (try clear HB)
    generalize ((((((w20.setCell ⟨gb297, 0, none⟩ (.int .i64 a0_0)).setCell ⟨gb297, 1, none⟩ (.string a0_1)).setCell ⟨gb297, 2, none⟩ (.slice A0_2 l0_2.length c0_2)).setCell ⟨gb297, 3, none⟩ (.string a0_3)).setCell ⟨gb297, 4, none⟩ (.string a0_4)).setCell ⟨gb297, 4, none⟩ (.string (⟨#[]⟩ : ByteArray))) = w26 at n0_ n1_ n2_ ⊢
    have BK290 := n0_
    have BK297 := n1_
    have HB := n2_
    clear n0_ n1_ n2_
    have n0_ := Aside0.mk (blk_drew BK290.out)
    have n1_ := Aside0.mk (blk_drew BK297.out)
    have n2_ := Aside0.mk (below_drew1 HB.out)
    clear BK290
    clear BK297
    clear HB
    have BK290 := n0_
    have BK297 := n1_
    have HB := n2_
    clear n0_ n1_ n2_
    refine start_ (n := 19) (S := fun w' => w'.cell? ⟨gb290, 0, none⟩ = some (.int .i64 a0_0) ∧ w'.cell? ⟨gb290, 1, none⟩ = some (.string a0_1) ∧ w'.cell? ⟨gb290, 2, none⟩ = some (.slice A0_2 l0_2.length c0_2) ∧ w'.cell? ⟨gb290, 3, none⟩ = some (.string a0_3) ∧ w'.cell? ⟨gb290, 4, none⟩ = some (.string a0_4)) (ds := []) #[false, false, false, false, false, false, false, false, false, false, false, false, false, false, false, false, false, false, false] (by kernel_rfl) rfl rfl ⟨(blk_cell BK290.out 0).trans rfl, (blk_cell BK290.out 1).trans rfl, (blk_cell BK290.out 2).trans rfl, (blk_cell BK290.out 3).trans rfl, (blk_cell BK290.out 4).trans rfl⟩ (fun hHeld => ?_); refine with_tabW palaverlaw06_EventRights.tab7 palaverlaw06_EventRights.bits7 (fun HT_ HW_ => ?_)
    generalize w26.drew = w27 at BK290 BK297 HB hHeld ⊢
    refine take_ (i := 0) (N := some 23) (v := ?_) (a' := ?_) #[true, false, false, false, false, false, false, false, false, false, false, false, false, false, false, false, false, false, false] rfl rfl (take_ofW HT_.out HW_.out (by kernel_rfl)) (fun _ _ _ h => h) (Or.inl ⟨by rfl, ?_⟩) hHeld ?_ ?_
    rotate_left
    ·rintro w' ⟨s0, s1, s2, s3, s4⟩
     go_simp
     with_reducible rfl
    rotate_left
    ·simp only [pr_]
     rfl
    refine take_ (i := 2) (N := some 25) (v := ?_) (a' := ?_) #[true, false, true, false, false, false, false, false, false, false, false, false, false, false, false, false, false, false, false] rfl rfl (take_ofW HT_.out HW_.out (by kernel_rfl)) (fun _ _ _ h => h) (Or.inl ⟨by rfl, ?_⟩) hHeld ?_ ?_
    rotate_left
    ·rintro w' ⟨s0, s1, s2, s3, s4⟩
     go_simp
     with_reducible rfl
    rotate_left
    ·simp only [pr_]
     rfl
    refine one_ (i := 1) (N := some 24) #[true, true, true, false, false, false, false, false, false, false, false, false, false, false, false, false, false, false, false] rfl rfl (one_of HT_.out (by kernel_rfl)) (by decide) (fun K hK => ?_)
    refine goes_ Tryd.func13 (by kernel_rfl) rfl #[.agg #[.int .i64 a0_0, .string a0_1, .slice A0_2 l0_2.length c0_2, .string a0_3, .string a0_4]] (by rfl) rfl rfl (by (try simp only [List.map_toArray, List.map_cons, List.map_nil]); first | done | rfl | (simp only [List.length_drop, List.length_take]; rfl)) ?_
    with_reducible refine (event_Right.calls k a0_0 a0_1 _ _ l0_2 a0_3 a0_4 t298 _ ?side1 ?side2 A23.out).mono ?_
    (case side1 => repeat (first | exact (Kd.C_below HR0_2.out HB.out) | (with_reducible refine Kd.C_alloc ?_ _) | (with_reducible refine Kd.C_drewN ?_ _) | (with_reducible refine Kd.C_drew ?_)))
    (case side2 => exact HC0_2.out)
    rintro e w28 ⟨rfl, hb⟩
    refine ⟨_, rfl, ?_⟩
    have n0_ := Aside0.mk (blk_below (g := gb290) (o := .cells #[.int .i64 a0_0, .string a0_1, .slice A0_2 l0_2.length c0_2, .string a0_3, .string a0_4] 24 (0, 0)) (by (with_reducible repeat (first | refine blk_drewN ?_ _ | refine blk_drew ?_ | refine blk_alloc ?_ _)); exact BK290.out) hb)
    have n1_ := Aside0.mk (blk_below (g := gb297) (o := .cells #[.int .i64 a0_0, .string a0_1, .slice A0_2 l0_2.length c0_2, .string a0_3, .string (⟨#[]⟩ : ByteArray)] 24 (0, 0)) (by (with_reducible repeat (first | refine blk_drewN ?_ _ | refine blk_drew ?_ | refine blk_alloc ?_ _)); exact BK297.out) hb)
    have n2_ := Aside0.mk (below_step (by repeat (first | (with_reducible first | exact HB.out | apply below_alloc | apply pw_below_drewN | apply below_drew1 | refine below_set ?_ GE290.out | refine below_set ?_ GE297.out) | exact HB.out)) hb)
    clear BK290
    clear BK297
    clear HB
    have BK290 := n0_
    have BK297 := n1_
    have HB := n2_
    clear n0_ n1_ n2_
    (try clear hb)
    (try clear hb2)
    (try clear hk)
    (try clear hi)
    refine hK.out _ _ ⟨(blk_cell BK290.out 0).trans rfl, (blk_cell BK290.out 1).trans rfl, (blk_cell BK290.out 2).trans rfl, (blk_cell BK290.out 3).trans rfl, (blk_cell BK290.out 4).trans rfl⟩ (fun hHeld => ?_)
    clear hK K
    refine norm_ (a' := ?_) ?_ ?_
    rotate_left
    ·show Act.put _ (some 24) _ = _
     simp only [pr_]
     rfl
    refine one_ (i := 3) (N := some 26) #[true, true, true, true, false, false, false, false, false, false, false, false, false, false, false, false, false, false, false] rfl rfl (one_of HT_.out (by kernel_rfl)) (by decide) (fun K hK => ?_)
    refine goes_ Tryd.func14 (by kernel_rfl) rfl #[.agg #[.int .i64 a0_0, .string a0_1, .slice A0_2 l0_2.length c0_2, .string a0_3, .string a0_4]] (by rfl) rfl rfl (by (try simp only [List.map_toArray, List.map_cons, List.map_nil]); first | done | rfl | (simp only [List.length_drop, List.length_take]; rfl)) ?_
    with_reducible refine (palaverref06_Right.calls k a0_0 a0_1 _ _ l0_2 a0_3 a0_4 t299 _ ?side1 ?side2 A24.out).mono ?_
    (case side1 => repeat (first | exact (Kd.C_below HR0_2.out HB.out) | (with_reducible refine Kd.C_alloc ?_ _) | (with_reducible refine Kd.C_drewN ?_ _) | (with_reducible refine Kd.C_drew ?_)))
    (case side2 => exact HC0_2.out)
    rintro e w29 ⟨rfl, hb⟩
    refine ⟨_, rfl, ?_⟩
    have n0_ := Aside0.mk (blk_below (g := gb290) (o := .cells #[.int .i64 a0_0, .string a0_1, .slice A0_2 l0_2.length c0_2, .string a0_3, .string a0_4] 24 (0, 0)) (by (with_reducible repeat (first | refine blk_drewN ?_ _ | refine blk_drew ?_ | refine blk_alloc ?_ _)); exact BK290.out) hb)
    have n1_ := Aside0.mk (blk_below (g := gb297) (o := .cells #[.int .i64 a0_0, .string a0_1, .slice A0_2 l0_2.length c0_2, .string a0_3, .string (⟨#[]⟩ : ByteArray)] 24 (0, 0)) (by (with_reducible repeat (first | refine blk_drewN ?_ _ | refine blk_drew ?_ | refine blk_alloc ?_ _)); exact BK297.out) hb)
    have n2_ := Aside0.mk (below_step (by repeat (first | (with_reducible first | exact HB.out | apply below_alloc | apply pw_below_drewN | apply below_drew1 | refine below_set ?_ GE290.out | refine below_set ?_ GE297.out) | exact HB.out)) hb)
    clear BK290
    clear BK297
    clear HB
    have BK290 := n0_
    have BK297 := n1_
    have HB := n2_
    clear n0_ n1_ n2_
    (try clear hb)
    (try clear hb2)
    (try clear hk)
    (try clear hi)
    refine hK.out _ _ ⟨(blk_cell BK290.out 0).trans rfl, (blk_cell BK290.out 1).trans rfl, (blk_cell BK290.out 2).trans rfl, (blk_cell BK290.out 3).trans rfl, (blk_cell BK290.out 4).trans rfl⟩ (fun hHeld => ?_)
    clear hK K
    refine norm_ (a' := ?_) ?_ ?_
    rotate_left
    ·show Act.put _ (some 26) _ = _
     simp only [pr_]
     rfl
    refine pure_ (i := 4) (N := some 27) (v := ?_) (a' := ?_) #[true, true, true, true, true, false, false, false, false, false, false, false, false, false, false, false, false, false, false] rfl rfl (any_of HT_.out (by kernel_rfl)) (fun _ _ _ h => h) (Or.inl ⟨by rfl, ?_⟩) ?_ ?_
    rotate_left
    ·intro w'
     go_simp
     with_reducible rfl
    rotate_left
    ·simp only [pr_]
     rfl
    refine pure_ (i := 5) (N := some 28) (v := ?_) (a' := ?_) #[true, true, true, true, true, true, false, false, false, false, false, false, false, false, false, false, false, false, false] rfl rfl (any_of HT_.out (by kernel_rfl)) (fun _ _ _ h => h) (Or.inl ⟨by rfl, ?_⟩) ?_ ?_
    rotate_left
    ·intro w'
     go_simp
     with_reducible rfl
    rotate_left
    ·simp only [pr_]
     rfl
    refine pure_ (i := 6) (N := some 29) (v := undef) (a' := ?_) #[true, true, true, true, true, true, true, false, false, false, false, false, false, false, false, false, false, false, false] rfl rfl (any_of HT_.out (by kernel_rfl)) (fun _ _ _ h => h) (Or.inr ⟨by rfl, rfl⟩) ?_ ?_
    rotate_left
    ·simp only [pr_]
     rfl
    refine pure_ (i := 7) (N := some 30) (v := undef) (a' := ?_) #[true, true, true, true, true, true, true, true, false, false, false, false, false, false, false, false, false, false, false] rfl rfl (any_of HT_.out (by kernel_rfl)) (fun _ _ _ h => h) (Or.inr ⟨by rfl, rfl⟩) ?_ ?_
    rotate_left
    ·simp only [pr_]
     rfl
    refine pure_ (i := 8) (N := some 31) (v := undef) (a' := ?_) #[true, true, true, true, true, true, true, true, true, false, false, false, false, false, false, false, false, false, false] rfl rfl (any_of HT_.out (by kernel_rfl)) (fun _ _ _ h => h) (Or.inr ⟨by rfl, rfl⟩) ?_ ?_
    rotate_left
    ·simp only [pr_]
     rfl
    refine pure_ (i := 9) (N := some 32) (v := undef) (a' := ?_) #[true, true, true, true, true, true, true, true, true, true, false, false, false, false, false, false, false, false, false] rfl rfl (any_of HT_.out (by kernel_rfl)) (fun _ _ _ h => h) (Or.inr ⟨by rfl, rfl⟩) ?_ ?_
    rotate_left
    ·simp only [pr_]
     rfl
    refine pure_ (i := 10) (N := some 33) (v := undef) (a' := ?_) #[true, true, true, true, true, true, true, true, true, true, true, false, false, false, false, false, false, false, false] rfl rfl (any_of HT_.out (by kernel_rfl)) (fun _ _ _ h => h) (Or.inr ⟨by rfl, rfl⟩) ?_ ?_
    rotate_left
    ·simp only [pr_]
     rfl
    refine pure_ (i := 11) (N := some 34) (v := ?_) (a' := ?_) #[true, true, true, true, true, true, true, true, true, true, true, true, false, false, false, false, false, false, false] rfl rfl (any_of HT_.out (by kernel_rfl)) (fun _ _ _ h => h) (Or.inl ⟨by rfl, ?_⟩) ?_ ?_
    rotate_left
    ·intro w'
     go_simp
     with_reducible rfl
    rotate_left
    ·simp only [pr_]
     rfl
    refine pure_ (i := 12) (N := some 35) (v := ?_) (a' := ?_) #[true, true, true, true, true, true, true, true, true, true, true, true, true, false, false, false, false, false, false] rfl rfl (any_of HT_.out (by kernel_rfl)) (fun _ _ _ h => h) (Or.inl ⟨by rfl, ?_⟩) ?_ ?_
    rotate_left
    ·intro w'
     go_simp
     with_reducible rfl
    rotate_left
    ·simp only [pr_]
     rfl
    refine pure_ (i := 13) (N := some 36) (v := undef) (a' := ?_) #[true, true, true, true, true, true, true, true, true, true, true, true, true, true, false, false, false, false, false] rfl rfl (any_of HT_.out (by kernel_rfl)) (fun _ _ _ h => h) (Or.inr ⟨by rfl, rfl⟩) ?_ ?_
    rotate_left
    ·simp only [pr_]
     rfl
    refine pure_ (i := 14) (N := some 37) (v := undef) (a' := ?_) #[true, true, true, true, true, true, true, true, true, true, true, true, true, true, true, false, false, false, false] rfl rfl (any_of HT_.out (by kernel_rfl)) (fun _ _ _ h => h) (Or.inr ⟨by rfl, rfl⟩) ?_ ?_
    rotate_left
    ·simp only [pr_]
     rfl
    refine pure_ (i := 15) (N := some 38) (v := undef) (a' := ?_) #[true, true, true, true, true, true, true, true, true, true, true, true, true, true, true, true, false, false, false] rfl rfl (any_of HT_.out (by kernel_rfl)) (fun _ _ _ h => h) (Or.inr ⟨by rfl, rfl⟩) ?_ ?_
    rotate_left
    ·simp only [pr_]
     rfl
    refine pure_ (i := 16) (N := some 39) (v := undef) (a' := ?_) #[true, true, true, true, true, true, true, true, true, true, true, true, true, true, true, true, true, false, false] rfl rfl (any_of HT_.out (by kernel_rfl)) (fun _ _ _ h => h) (Or.inr ⟨by rfl, rfl⟩) ?_ ?_
    rotate_left
    ·simp only [pr_]
     rfl
    refine pure_ (i := 17) (N := some 40) (v := undef) (a' := ?_) #[true, true, true, true, true, true, true, true, true, true, true, true, true, true, true, true, true, true, false] rfl rfl (any_of HT_.out (by kernel_rfl)) (fun _ _ _ h => h) (Or.inr ⟨by rfl, rfl⟩) ?_ ?_
    rotate_left
    ·simp only [pr_]
     rfl
    refine pure_ (i := 18) (N := some 41) (v := ?_) (a' := ?_) #[true, true, true, true, true, true, true, true, true, true, true, true, true, true, true, true, true, true, true] rfl rfl (any_of HT_.out (by kernel_rfl)) (fun _ _ _ h => h) (Or.inl ⟨by rfl, ?_⟩) ?_ ?_
    rotate_left
    ·intro w'
     go_simp
     with_reducible rfl
    rotate_left
    ·simp only [pr_]
     rfl
    refine done_ (done_of HT_.out (by kernel_rfl)) ?_
    try go_wp2
    go_meet
    case rel => exact ⟨_, (true), (by first | rfl | (simp; done) | (simp [*]; done) | exact congrArg Value.bool (nonempty_l _) | (refine congrArg (Value.int _) ?_; first | omega | (unfold Go.RowKit.wrap64; omega))), H', ⟨by first | omega | exact Nat.le_refl _⟩, ⟨by (with_reducible repeat (first | refine blk_drewN ?_ _ | refine blk_drew ?_ | refine blk_alloc ?_ _)); exact BK290.out⟩, ⟨by (with_reducible repeat (first | refine blk_drewN ?_ _ | refine blk_drew ?_ | refine blk_alloc ?_ _)); exact BK297.out⟩, ⟨by repeat (first | (with_reducible first | exact HB.out | apply below_alloc | apply pw_below_drewN | apply below_drew1 | refine below_set ?_ GE290.out | refine below_set ?_ GE297.out) | exact HB.out)⟩⟩
   ·rw [if_neg c25] at H
    have c25b0 : (t298 != t299) = false := by simpa using c25
    (try (have c25b1 : decide (t298 = t299) = true := by simpa using c25))
    (try (have c25b2 : (t298 == t299) = true := by simpa using c25))
    clear c25
    (first | rw [c25b0] | (simp only [i64_w, i32_w]; rw [c25b0]) | skip)
    replace H := Option.bind_eq_some_iff.mp H
    obtain ⟨t300, A300, H⟩ := H
    replace H : (if ((t294 == 0) != t300) = true then (palaverlaw06_EventRights.j0 k t293 t294 t295 t296 true a0_0 a0_1 l0_2 a0_3 a0_4 a0_0 a0_1 l0_2 a0_3 (⟨#[]⟩ : ByteArray)) else ((palaverref06_Right.f k a0_0 a0_1 l0_2 a0_3 (⟨#[]⟩ : ByteArray)).bind fun t301 => (palaverlaw06_EventRights.j0 k t293 t294 t295 t296 ((t296 == 0) != t301) a0_0 a0_1 l0_2 a0_3 a0_4 a0_0 a0_1 l0_2 a0_3 (⟨#[]⟩ : ByteArray)))) = some r := H
    have A30 := Aside0.mk A300
    clear A300
    by_cases c31 : ((t294 == 0) != t300) = true
    ·rw [if_pos c31] at H
     have c31b0 : ((t294 == 0) != t300) = true := c31
     (try (have c31b1 : decide ((t294 == 0) = t300) = false := by simpa using c31))
     (try (have c31b2 : ((t294 == 0) == t300) = false := by simpa using c31))
     (try (have c31b3 : ¬ ((t294 == 0) = t300) := by simpa using c31))
     clear c31
     have H' := Aside0.mk H
     clear H
     try go_wp2
     have n0_ : Aside0 (((((((w20.setCell ⟨gb297, 0, none⟩ (.int .i64 a0_0)).setCell ⟨gb297, 1, none⟩ (.string a0_1)).setCell ⟨gb297, 2, none⟩ (.slice A0_2 l0_2.length c0_2)).setCell ⟨gb297, 3, none⟩ (.string a0_3)).setCell ⟨gb297, 4, none⟩ (.string a0_4)).setCell ⟨gb297, 4, none⟩ (.string (⟨#[]⟩ : ByteArray))).heap[gb290]? = some (.cells #[.int .i64 a0_0, .string a0_1, .slice A0_2 l0_2.length c0_2, .string a0_3, .string a0_4] 24 (0, 0))) := ⟨by (with_reducible repeat (first | refine blk_drewN ?_ _ | refine blk_drew ?_ | refine blk_alloc ?_ _)); refine blk_far ?_ NB290_297.out _; (with_reducible repeat (first | refine blk_drewN ?_ _ | refine blk_drew ?_ | refine blk_alloc ?_ _)); refine blk_far ?_ NB290_297.out _; (with_reducible repeat (first | refine blk_drewN ?_ _ | refine blk_drew ?_ | refine blk_alloc ?_ _)); refine blk_far ?_ NB290_297.out _; (with_reducible repeat (first | refine blk_drewN ?_ _ | refine blk_drew ?_ | refine blk_alloc ?_ _)); refine blk_far ?_ NB290_297.out _; (with_reducible repeat (first | refine blk_drewN ?_ _ | refine blk_drew ?_ | refine blk_alloc ?_ _)); refine blk_far ?_ NB290_297.out _; (with_reducible repeat (first | refine blk_drewN ?_ _ | refine blk_drew ?_ | refine blk_alloc ?_ _)); refine blk_far ?_ NB290_297.out _; (with_reducible repeat (first | refine blk_drewN ?_ _ | refine blk_drew ?_ | refine blk_alloc ?_ _)); exact BK290.out⟩
     have n1_ : Aside0 (((((((w20.setCell ⟨gb297, 0, none⟩ (.int .i64 a0_0)).setCell ⟨gb297, 1, none⟩ (.string a0_1)).setCell ⟨gb297, 2, none⟩ (.slice A0_2 l0_2.length c0_2)).setCell ⟨gb297, 3, none⟩ (.string a0_3)).setCell ⟨gb297, 4, none⟩ (.string a0_4)).setCell ⟨gb297, 4, none⟩ (.string (⟨#[]⟩ : ByteArray))).heap[gb297]? = some (.cells #[.int .i64 a0_0, .string a0_1, .slice A0_2 l0_2.length c0_2, .string a0_3, .string (⟨#[]⟩ : ByteArray)] 24 (0, 0))) := ⟨by (with_reducible repeat (first | refine blk_drewN ?_ _ | refine blk_drew ?_ | refine blk_alloc ?_ _)); refine blk_put (cs := #[.int .i64 a0_0, .string a0_1, .slice A0_2 l0_2.length c0_2, .string a0_3, .string a0_4]) ?_ 4 _ rfl; (with_reducible repeat (first | refine blk_drewN ?_ _ | refine blk_drew ?_ | refine blk_alloc ?_ _)); refine blk_put (cs := #[.int .i64 a0_0, .string a0_1, .slice A0_2 l0_2.length c0_2, .string a0_3, .string (⟨#[]⟩ : ByteArray)]) ?_ 4 _ rfl; (with_reducible repeat (first | refine blk_drewN ?_ _ | refine blk_drew ?_ | refine blk_alloc ?_ _)); refine blk_put (cs := #[.int .i64 a0_0, .string a0_1, .slice A0_2 l0_2.length c0_2, .string (⟨#[]⟩ : ByteArray), .string (⟨#[]⟩ : ByteArray)]) ?_ 3 _ rfl; (with_reducible repeat (first | refine blk_drewN ?_ _ | refine blk_drew ?_ | refine blk_alloc ?_ _)); refine blk_put (cs := #[.int .i64 a0_0, .string a0_1, .slice none 0 0, .string (⟨#[]⟩ : ByteArray), .string (⟨#[]⟩ : ByteArray)]) ?_ 2 _ rfl; (with_reducible repeat (first | refine blk_drewN ?_ _ | refine blk_drew ?_ | refine blk_alloc ?_ _)); refine blk_put (cs := #[.int .i64 a0_0, .string (⟨#[]⟩ : ByteArray), .slice none 0 0, .string (⟨#[]⟩ : ByteArray), .string (⟨#[]⟩ : ByteArray)]) ?_ 1 _ rfl; (with_reducible repeat (first | refine blk_drewN ?_ _ | refine blk_drew ?_ | refine blk_alloc ?_ _)); refine blk_put (cs := #[.int .i64 0, .string (⟨#[]⟩ : ByteArray), .slice none 0 0, .string (⟨#[]⟩ : ByteArray), .string (⟨#[]⟩ : ByteArray)]) ?_ 0 _ rfl; (with_reducible repeat (first | refine blk_drewN ?_ _ | refine blk_drew ?_ | refine blk_alloc ?_ _)); exact BK297.out⟩
     have n2_ : Aside0 (Below w.heap.size w ((((((w20.setCell ⟨gb297, 0, none⟩ (.int .i64 a0_0)).setCell ⟨gb297, 1, none⟩ (.string a0_1)).setCell ⟨gb297, 2, none⟩ (.slice A0_2 l0_2.length c0_2)).setCell ⟨gb297, 3, none⟩ (.string a0_3)).setCell ⟨gb297, 4, none⟩ (.string a0_4)).setCell ⟨gb297, 4, none⟩ (.string (⟨#[]⟩ : ByteArray)))) := ⟨by repeat (first | (with_reducible first | exact HB.out | apply below_alloc | apply pw_below_drewN | apply below_drew1 | refine below_set ?_ GE290.out | refine below_set ?_ GE297.out) | exact HB.out)⟩
     (try clear BK290)
     (try clear BK297)
     (try clear HB)
     generalize ((((((w20.setCell ⟨gb297, 0, none⟩ (.int .i64 a0_0)).setCell ⟨gb297, 1, none⟩ (.string a0_1)).setCell ⟨gb297, 2, none⟩ (.slice A0_2 l0_2.length c0_2)).setCell ⟨gb297, 3, none⟩ (.string a0_3)).setCell ⟨gb297, 4, none⟩ (.string a0_4)).setCell ⟨gb297, 4, none⟩ (.string (⟨#[]⟩ : ByteArray))) = w32 at n0_ n1_ n2_ ⊢
     have BK290 := n0_
     have BK297 := n1_
     have HB := n2_
     clear n0_ n1_ n2_
     have n0_ := Aside0.mk (blk_drew BK290.out)
     have n1_ := Aside0.mk (blk_drew BK297.out)
     have n2_ := Aside0.mk (below_drew1 HB.out)
     clear BK290
     clear BK297
     clear HB
     have BK290 := n0_
     have BK297 := n1_
     have HB := n2_
     clear n0_ n1_ n2_
     refine start_ (n := 19) (S := fun w' => w'.cell? ⟨gb290, 0, none⟩ = some (.int .i64 a0_0) ∧ w'.cell? ⟨gb290, 1, none⟩ = some (.string a0_1) ∧ w'.cell? ⟨gb290, 2, none⟩ = some (.slice A0_2 l0_2.length c0_2) ∧ w'.cell? ⟨gb290, 3, none⟩ = some (.string a0_3) ∧ w'.cell? ⟨gb290, 4, none⟩ = some (.string a0_4)) (ds := []) #[false, false, false, false, false, false, false, false, false, false, false, false, false, false, false, false, false, false, false] (by kernel_rfl) rfl rfl ⟨(blk_cell BK290.out 0).trans rfl, (blk_cell BK290.out 1).trans rfl, (blk_cell BK290.out 2).trans rfl, (blk_cell BK290.out 3).trans rfl, (blk_cell BK290.out 4).trans rfl⟩ (fun hHeld => ?_); refine with_tabW palaverlaw06_EventRights.tab7 palaverlaw06_EventRights.bits7 (fun HT_ HW_ => ?_)
     generalize w32.drew = w33 at BK290 BK297 HB hHeld ⊢
     refine take_ (i := 0) (N := some 23) (v := ?_) (a' := ?_) #[true, false, false, false, false, false, false, false, false, false, false, false, false, false, false, false, false, false, false] rfl rfl (take_ofW HT_.out HW_.out (by kernel_rfl)) (fun _ _ _ h => h) (Or.inl ⟨by rfl, ?_⟩) hHeld ?_ ?_
     rotate_left
     ·rintro w' ⟨s0, s1, s2, s3, s4⟩
      go_simp
      with_reducible rfl
     rotate_left
     ·simp only [pr_]
      rfl
     refine take_ (i := 2) (N := some 25) (v := ?_) (a' := ?_) #[true, false, true, false, false, false, false, false, false, false, false, false, false, false, false, false, false, false, false] rfl rfl (take_ofW HT_.out HW_.out (by kernel_rfl)) (fun _ _ _ h => h) (Or.inl ⟨by rfl, ?_⟩) hHeld ?_ ?_
     rotate_left
     ·rintro w' ⟨s0, s1, s2, s3, s4⟩
      go_simp
      with_reducible rfl
     rotate_left
     ·simp only [pr_]
      rfl
     refine one_ (i := 1) (N := some 24) #[true, true, true, false, false, false, false, false, false, false, false, false, false, false, false, false, false, false, false] rfl rfl (one_of HT_.out (by kernel_rfl)) (by decide) (fun K hK => ?_)
     refine goes_ Tryd.func13 (by kernel_rfl) rfl #[.agg #[.int .i64 a0_0, .string a0_1, .slice A0_2 l0_2.length c0_2, .string a0_3, .string a0_4]] (by rfl) rfl rfl (by (try simp only [List.map_toArray, List.map_cons, List.map_nil]); first | done | rfl | (simp only [List.length_drop, List.length_take]; rfl)) ?_
     with_reducible refine (event_Right.calls k a0_0 a0_1 _ _ l0_2 a0_3 a0_4 t298 _ ?side1 ?side2 A23.out).mono ?_
     (case side1 => repeat (first | exact (Kd.C_below HR0_2.out HB.out) | (with_reducible refine Kd.C_alloc ?_ _) | (with_reducible refine Kd.C_drewN ?_ _) | (with_reducible refine Kd.C_drew ?_)))
     (case side2 => exact HC0_2.out)
     rintro e w34 ⟨rfl, hb⟩
     refine ⟨_, rfl, ?_⟩
     have n0_ := Aside0.mk (blk_below (g := gb290) (o := .cells #[.int .i64 a0_0, .string a0_1, .slice A0_2 l0_2.length c0_2, .string a0_3, .string a0_4] 24 (0, 0)) (by (with_reducible repeat (first | refine blk_drewN ?_ _ | refine blk_drew ?_ | refine blk_alloc ?_ _)); exact BK290.out) hb)
     have n1_ := Aside0.mk (blk_below (g := gb297) (o := .cells #[.int .i64 a0_0, .string a0_1, .slice A0_2 l0_2.length c0_2, .string a0_3, .string (⟨#[]⟩ : ByteArray)] 24 (0, 0)) (by (with_reducible repeat (first | refine blk_drewN ?_ _ | refine blk_drew ?_ | refine blk_alloc ?_ _)); exact BK297.out) hb)
     have n2_ := Aside0.mk (below_step (by repeat (first | (with_reducible first | exact HB.out | apply below_alloc | apply pw_below_drewN | apply below_drew1 | refine below_set ?_ GE290.out | refine below_set ?_ GE297.out) | exact HB.out)) hb)
     clear BK290
     clear BK297
     clear HB
     have BK290 := n0_
     have BK297 := n1_
     have HB := n2_
     clear n0_ n1_ n2_
     (try clear hb)
     (try clear hb2)
     (try clear hk)
     (try clear hi)
     refine hK.out _ _ ⟨(blk_cell BK290.out 0).trans rfl, (blk_cell BK290.out 1).trans rfl, (blk_cell BK290.out 2).trans rfl, (blk_cell BK290.out 3).trans rfl, (blk_cell BK290.out 4).trans rfl⟩ (fun hHeld => ?_)
     clear hK K
     refine norm_ (a' := ?_) ?_ ?_
     rotate_left
     ·show Act.put _ (some 24) _ = _
      simp only [pr_]
      rfl
     refine one_ (i := 3) (N := some 26) #[true, true, true, true, false, false, false, false, false, false, false, false, false, false, false, false, false, false, false] rfl rfl (one_of HT_.out (by kernel_rfl)) (by decide) (fun K hK => ?_)
     refine goes_ Tryd.func14 (by kernel_rfl) rfl #[.agg #[.int .i64 a0_0, .string a0_1, .slice A0_2 l0_2.length c0_2, .string a0_3, .string a0_4]] (by rfl) rfl rfl (by (try simp only [List.map_toArray, List.map_cons, List.map_nil]); first | done | rfl | (simp only [List.length_drop, List.length_take]; rfl)) ?_
     with_reducible refine (palaverref06_Right.calls k a0_0 a0_1 _ _ l0_2 a0_3 a0_4 t299 _ ?side1 ?side2 A24.out).mono ?_
     (case side1 => repeat (first | exact (Kd.C_below HR0_2.out HB.out) | (with_reducible refine Kd.C_alloc ?_ _) | (with_reducible refine Kd.C_drewN ?_ _) | (with_reducible refine Kd.C_drew ?_)))
     (case side2 => exact HC0_2.out)
     rintro e w35 ⟨rfl, hb⟩
     refine ⟨_, rfl, ?_⟩
     have n0_ := Aside0.mk (blk_below (g := gb290) (o := .cells #[.int .i64 a0_0, .string a0_1, .slice A0_2 l0_2.length c0_2, .string a0_3, .string a0_4] 24 (0, 0)) (by (with_reducible repeat (first | refine blk_drewN ?_ _ | refine blk_drew ?_ | refine blk_alloc ?_ _)); exact BK290.out) hb)
     have n1_ := Aside0.mk (blk_below (g := gb297) (o := .cells #[.int .i64 a0_0, .string a0_1, .slice A0_2 l0_2.length c0_2, .string a0_3, .string (⟨#[]⟩ : ByteArray)] 24 (0, 0)) (by (with_reducible repeat (first | refine blk_drewN ?_ _ | refine blk_drew ?_ | refine blk_alloc ?_ _)); exact BK297.out) hb)
     have n2_ := Aside0.mk (below_step (by repeat (first | (with_reducible first | exact HB.out | apply below_alloc | apply pw_below_drewN | apply below_drew1 | refine below_set ?_ GE290.out | refine below_set ?_ GE297.out) | exact HB.out)) hb)
     clear BK290
     clear BK297
     clear HB
     have BK290 := n0_
     have BK297 := n1_
     have HB := n2_
     clear n0_ n1_ n2_
     (try clear hb)
     (try clear hb2)
     (try clear hk)
     (try clear hi)
     refine hK.out _ _ ⟨(blk_cell BK290.out 0).trans rfl, (blk_cell BK290.out 1).trans rfl, (blk_cell BK290.out 2).trans rfl, (blk_cell BK290.out 3).trans rfl, (blk_cell BK290.out 4).trans rfl⟩ (fun hHeld => ?_)
     clear hK K
     refine norm_ (a' := ?_) ?_ ?_
     rotate_left
     ·show Act.put _ (some 26) _ = _
      simp only [pr_]
      rfl
     refine pure_ (i := 4) (N := some 27) (v := ?_) (a' := ?_) #[true, true, true, true, true, false, false, false, false, false, false, false, false, false, false, false, false, false, false] rfl rfl (any_of HT_.out (by kernel_rfl)) (fun _ _ _ h => h) (Or.inl ⟨by rfl, ?_⟩) ?_ ?_
     rotate_left
     ·intro w'
      go_simp
      with_reducible rfl
     rotate_left
     ·simp only [pr_]
      rfl
     refine pure_ (i := 5) (N := some 28) (v := ?_) (a' := ?_) #[true, true, true, true, true, true, false, false, false, false, false, false, false, false, false, false, false, false, false] rfl rfl (any_of HT_.out (by kernel_rfl)) (fun _ _ _ h => h) (Or.inl ⟨by rfl, ?_⟩) ?_ ?_
     rotate_left
     ·intro w'
      go_simp
      with_reducible rfl
     rotate_left
     ·simp only [pr_]
      rfl
     refine pure_ (i := 6) (N := some 29) (v := ?_) (a' := ?_) #[true, true, true, true, true, true, true, false, false, false, false, false, false, false, false, false, false, false, false] rfl rfl (any_of HT_.out (by kernel_rfl)) (fun _ _ _ h => h) (Or.inl ⟨by rfl, ?_⟩) ?_ ?_
     rotate_left
     ·intro w'
      go_simp
      with_reducible rfl
     rotate_left
     ·simp only [pr_]
      rfl
     refine pure_ (i := 7) (N := some 30) (v := ?_) (a' := ?_) #[true, true, true, true, true, true, true, true, false, false, false, false, false, false, false, false, false, false, false] rfl rfl (any_of HT_.out (by kernel_rfl)) (fun _ _ _ h => h) (Or.inl ⟨by rfl, ?_⟩) ?_ ?_
     rotate_left
     ·intro w'
      go_simp
      with_reducible rfl
     rotate_left
     ·simp only [pr_]
      rfl
     refine take_ (i := 8) (N := some 31) (v := ?_) (a' := ?_) #[true, true, true, true, true, true, true, true, true, false, false, false, false, false, false, false, false, false, false] rfl rfl (take_ofW HT_.out HW_.out (by kernel_rfl)) (fun _ _ _ h => h) (Or.inl ⟨by rfl, ?_⟩) hHeld ?_ ?_
     rotate_left
     ·rintro w' ⟨s0, s1, s2, s3, s4⟩
      go_simp
      with_reducible rfl
     rotate_left
     ·simp only [pr_]
      rfl
     refine one_ (i := 9) (N := some 32) #[true, true, true, true, true, true, true, true, true, true, false, false, false, false, false, false, false, false, false] rfl rfl (one_of HT_.out (by kernel_rfl)) (by decide) (fun K hK => ?_)
     refine goes_ Tryd.func14 (by kernel_rfl) rfl #[.agg #[.int .i64 a0_0, .string a0_1, .slice A0_2 l0_2.length c0_2, .string a0_3, .string a0_4]] (by rfl) rfl rfl (by (try simp only [List.map_toArray, List.map_cons, List.map_nil]); first | done | rfl | (simp only [List.length_drop, List.length_take]; rfl)) ?_
     with_reducible refine (palaverref06_Right.calls k a0_0 a0_1 _ _ l0_2 a0_3 a0_4 t300 _ ?side1 ?side2 A30.out).mono ?_
     (case side1 => repeat (first | exact (Kd.C_below HR0_2.out HB.out) | (with_reducible refine Kd.C_alloc ?_ _) | (with_reducible refine Kd.C_drewN ?_ _) | (with_reducible refine Kd.C_drew ?_)))
     (case side2 => exact HC0_2.out)
     rintro e w36 ⟨rfl, hb⟩
     refine ⟨_, rfl, ?_⟩
     have n0_ := Aside0.mk (blk_below (g := gb290) (o := .cells #[.int .i64 a0_0, .string a0_1, .slice A0_2 l0_2.length c0_2, .string a0_3, .string a0_4] 24 (0, 0)) (by (with_reducible repeat (first | refine blk_drewN ?_ _ | refine blk_drew ?_ | refine blk_alloc ?_ _)); exact BK290.out) hb)
     have n1_ := Aside0.mk (blk_below (g := gb297) (o := .cells #[.int .i64 a0_0, .string a0_1, .slice A0_2 l0_2.length c0_2, .string a0_3, .string (⟨#[]⟩ : ByteArray)] 24 (0, 0)) (by (with_reducible repeat (first | refine blk_drewN ?_ _ | refine blk_drew ?_ | refine blk_alloc ?_ _)); exact BK297.out) hb)
     have n2_ := Aside0.mk (below_step (by repeat (first | (with_reducible first | exact HB.out | apply below_alloc | apply pw_below_drewN | apply below_drew1 | refine below_set ?_ GE290.out | refine below_set ?_ GE297.out) | exact HB.out)) hb)
     clear BK290
     clear BK297
     clear HB
     have BK290 := n0_
     have BK297 := n1_
     have HB := n2_
     clear n0_ n1_ n2_
     (try clear hb)
     (try clear hb2)
     (try clear hk)
     (try clear hi)
     refine hK.out _ _ ⟨(blk_cell BK290.out 0).trans rfl, (blk_cell BK290.out 1).trans rfl, (blk_cell BK290.out 2).trans rfl, (blk_cell BK290.out 3).trans rfl, (blk_cell BK290.out 4).trans rfl⟩ (fun hHeld => ?_)
     clear hK K
     refine norm_ (a' := ?_) ?_ ?_
     rotate_left
     ·show Act.put _ (some 32) _ = _
      simp only [pr_]
      rfl
     refine pure_ (i := 10) (N := some 33) (v := ?_) (a' := ?_) #[true, true, true, true, true, true, true, true, true, true, true, false, false, false, false, false, false, false, false] rfl rfl (any_of HT_.out (by kernel_rfl)) (fun _ _ _ h => h) (Or.inl ⟨by rfl, ?_⟩) ?_ ?_
     rotate_left
     ·intro w'
      go_simp
      with_reducible rfl
     rotate_left
     ·simp only [pr_]
      rfl
     refine pure_ (i := 11) (N := some 34) (v := ?_) (a' := ?_) #[true, true, true, true, true, true, true, true, true, true, true, true, false, false, false, false, false, false, false] rfl rfl (any_of HT_.out (by kernel_rfl)) (fun _ _ _ h => h) (Or.inl ⟨by rfl, ?_⟩) ?_ ?_
     rotate_left
     ·intro w'
      go_simp
      with_reducible rfl
     rotate_left
     ·simp only [pr_]
      rfl
     refine pure_ (i := 12) (N := some 35) (v := ?_) (a' := ?_) #[true, true, true, true, true, true, true, true, true, true, true, true, true, false, false, false, false, false, false] rfl rfl (any_of HT_.out (by kernel_rfl)) (fun _ _ _ h => h) (Or.inl ⟨by rfl, ?_⟩) ?_ ?_
     rotate_left
     ·intro w'
      go_simp
      with_reducible rfl
     rotate_left
     ·simp only [pr_]
      rfl
     refine pure_ (i := 13) (N := some 36) (v := undef) (a' := ?_) #[true, true, true, true, true, true, true, true, true, true, true, true, true, true, false, false, false, false, false] rfl rfl (any_of HT_.out (by kernel_rfl)) (fun _ _ _ h => h) (Or.inr ⟨by rfl, rfl⟩) ?_ ?_
     rotate_left
     ·simp only [pr_]
      rfl
     refine pure_ (i := 14) (N := some 37) (v := undef) (a' := ?_) #[true, true, true, true, true, true, true, true, true, true, true, true, true, true, true, false, false, false, false] rfl rfl (any_of HT_.out (by kernel_rfl)) (fun _ _ _ h => h) (Or.inr ⟨by rfl, rfl⟩) ?_ ?_
     rotate_left
     ·simp only [pr_]
      rfl
     refine pure_ (i := 15) (N := some 38) (v := undef) (a' := ?_) #[true, true, true, true, true, true, true, true, true, true, true, true, true, true, true, true, false, false, false] rfl rfl (any_of HT_.out (by kernel_rfl)) (fun _ _ _ h => h) (Or.inr ⟨by rfl, rfl⟩) ?_ ?_
     rotate_left
     ·simp only [pr_]
      rfl
     refine pure_ (i := 16) (N := some 39) (v := undef) (a' := ?_) #[true, true, true, true, true, true, true, true, true, true, true, true, true, true, true, true, true, false, false] rfl rfl (any_of HT_.out (by kernel_rfl)) (fun _ _ _ h => h) (Or.inr ⟨by rfl, rfl⟩) ?_ ?_
     rotate_left
     ·simp only [pr_]
      rfl
     refine pure_ (i := 17) (N := some 40) (v := undef) (a' := ?_) #[true, true, true, true, true, true, true, true, true, true, true, true, true, true, true, true, true, true, false] rfl rfl (any_of HT_.out (by kernel_rfl)) (fun _ _ _ h => h) (Or.inr ⟨by rfl, rfl⟩) ?_ ?_
     rotate_left
     ·simp only [pr_]
      rfl
     refine pure_ (i := 18) (N := some 41) (v := ?_) (a' := ?_) #[true, true, true, true, true, true, true, true, true, true, true, true, true, true, true, true, true, true, true] rfl rfl (any_of HT_.out (by kernel_rfl)) (fun _ _ _ h => h) (Or.inl ⟨by rfl, ?_⟩) ?_ ?_
     rotate_left
     ·intro w'
      go_simp
      with_reducible rfl
     rotate_left
     ·simp only [pr_]
      rfl
     refine done_ (done_of HT_.out (by kernel_rfl)) ?_
     try go_wp2
     go_meet
     case rel => exact ⟨_, (true), (by first | rfl | (simp; done) | (simp [*]; done) | exact congrArg Value.bool (nonempty_l _) | (refine congrArg (Value.int _) ?_; first | omega | (unfold Go.RowKit.wrap64; omega))), H', ⟨by first | omega | exact Nat.le_refl _⟩, ⟨by (with_reducible repeat (first | refine blk_drewN ?_ _ | refine blk_drew ?_ | refine blk_alloc ?_ _)); exact BK290.out⟩, ⟨by (with_reducible repeat (first | refine blk_drewN ?_ _ | refine blk_drew ?_ | refine blk_alloc ?_ _)); exact BK297.out⟩, ⟨by repeat (first | (with_reducible first | exact HB.out | apply below_alloc | apply pw_below_drewN | apply below_drew1 | refine below_set ?_ GE290.out | refine below_set ?_ GE297.out) | exact HB.out)⟩⟩
    ·rw [if_neg c31] at H
     have c31b0 : ((t294 == 0) != t300) = false := by simpa using c31
     (try (have c31b1 : decide ((t294 == 0) = t300) = true := by simpa using c31))
     (try (have c31b2 : ((t294 == 0) == t300) = true := by simpa using c31))
     clear c31
     replace H := Option.bind_eq_some_iff.mp H
     obtain ⟨t301, A370, H⟩ := H
     replace H : (palaverlaw06_EventRights.j0 k t293 t294 t295 t296 ((t296 == 0) != t301) a0_0 a0_1 l0_2 a0_3 a0_4 a0_0 a0_1 l0_2 a0_3 (⟨#[]⟩ : ByteArray)) = some r := H
     have A37 := Aside0.mk A370
     clear A370
     have H' := Aside0.mk H
     clear H
     try go_wp2
     have n0_ : Aside0 (((((((w20.setCell ⟨gb297, 0, none⟩ (.int .i64 a0_0)).setCell ⟨gb297, 1, none⟩ (.string a0_1)).setCell ⟨gb297, 2, none⟩ (.slice A0_2 l0_2.length c0_2)).setCell ⟨gb297, 3, none⟩ (.string a0_3)).setCell ⟨gb297, 4, none⟩ (.string a0_4)).setCell ⟨gb297, 4, none⟩ (.string (⟨#[]⟩ : ByteArray))).heap[gb290]? = some (.cells #[.int .i64 a0_0, .string a0_1, .slice A0_2 l0_2.length c0_2, .string a0_3, .string a0_4] 24 (0, 0))) := ⟨by (with_reducible repeat (first | refine blk_drewN ?_ _ | refine blk_drew ?_ | refine blk_alloc ?_ _)); refine blk_far ?_ NB290_297.out _; (with_reducible repeat (first | refine blk_drewN ?_ _ | refine blk_drew ?_ | refine blk_alloc ?_ _)); refine blk_far ?_ NB290_297.out _; (with_reducible repeat (first | refine blk_drewN ?_ _ | refine blk_drew ?_ | refine blk_alloc ?_ _)); refine blk_far ?_ NB290_297.out _; (with_reducible repeat (first | refine blk_drewN ?_ _ | refine blk_drew ?_ | refine blk_alloc ?_ _)); refine blk_far ?_ NB290_297.out _; (with_reducible repeat (first | refine blk_drewN ?_ _ | refine blk_drew ?_ | refine blk_alloc ?_ _)); refine blk_far ?_ NB290_297.out _; (with_reducible repeat (first | refine blk_drewN ?_ _ | refine blk_drew ?_ | refine blk_alloc ?_ _)); refine blk_far ?_ NB290_297.out _; (with_reducible repeat (first | refine blk_drewN ?_ _ | refine blk_drew ?_ | refine blk_alloc ?_ _)); exact BK290.out⟩
     have n1_ : Aside0 (((((((w20.setCell ⟨gb297, 0, none⟩ (.int .i64 a0_0)).setCell ⟨gb297, 1, none⟩ (.string a0_1)).setCell ⟨gb297, 2, none⟩ (.slice A0_2 l0_2.length c0_2)).setCell ⟨gb297, 3, none⟩ (.string a0_3)).setCell ⟨gb297, 4, none⟩ (.string a0_4)).setCell ⟨gb297, 4, none⟩ (.string (⟨#[]⟩ : ByteArray))).heap[gb297]? = some (.cells #[.int .i64 a0_0, .string a0_1, .slice A0_2 l0_2.length c0_2, .string a0_3, .string (⟨#[]⟩ : ByteArray)] 24 (0, 0))) := ⟨by (with_reducible repeat (first | refine blk_drewN ?_ _ | refine blk_drew ?_ | refine blk_alloc ?_ _)); refine blk_put (cs := #[.int .i64 a0_0, .string a0_1, .slice A0_2 l0_2.length c0_2, .string a0_3, .string a0_4]) ?_ 4 _ rfl; (with_reducible repeat (first | refine blk_drewN ?_ _ | refine blk_drew ?_ | refine blk_alloc ?_ _)); refine blk_put (cs := #[.int .i64 a0_0, .string a0_1, .slice A0_2 l0_2.length c0_2, .string a0_3, .string (⟨#[]⟩ : ByteArray)]) ?_ 4 _ rfl; (with_reducible repeat (first | refine blk_drewN ?_ _ | refine blk_drew ?_ | refine blk_alloc ?_ _)); refine blk_put (cs := #[.int .i64 a0_0, .string a0_1, .slice A0_2 l0_2.length c0_2, .string (⟨#[]⟩ : ByteArray), .string (⟨#[]⟩ : ByteArray)]) ?_ 3 _ rfl; (with_reducible repeat (first | refine blk_drewN ?_ _ | refine blk_drew ?_ | refine blk_alloc ?_ _)); refine blk_put (cs := #[.int .i64 a0_0, .string a0_1, .slice none 0 0, .string (⟨#[]⟩ : ByteArray), .string (⟨#[]⟩ : ByteArray)]) ?_ 2 _ rfl; (with_reducible repeat (first | refine blk_drewN ?_ _ | refine blk_drew ?_ | refine blk_alloc ?_ _)); refine blk_put (cs := #[.int .i64 a0_0, .string (⟨#[]⟩ : ByteArray), .slice none 0 0, .string (⟨#[]⟩ : ByteArray), .string (⟨#[]⟩ : ByteArray)]) ?_ 1 _ rfl; (with_reducible repeat (first | refine blk_drewN ?_ _ | refine blk_drew ?_ | refine blk_alloc ?_ _)); refine blk_put (cs := #[.int .i64 0, .string (⟨#[]⟩ : ByteArray), .slice none 0 0, .string (⟨#[]⟩ : ByteArray), .string (⟨#[]⟩ : ByteArray)]) ?_ 0 _ rfl; (with_reducible repeat (first | refine blk_drewN ?_ _ | refine blk_drew ?_ | refine blk_alloc ?_ _)); exact BK297.out⟩
     have n2_ : Aside0 (Below w.heap.size w ((((((w20.setCell ⟨gb297, 0, none⟩ (.int .i64 a0_0)).setCell ⟨gb297, 1, none⟩ (.string a0_1)).setCell ⟨gb297, 2, none⟩ (.slice A0_2 l0_2.length c0_2)).setCell ⟨gb297, 3, none⟩ (.string a0_3)).setCell ⟨gb297, 4, none⟩ (.string a0_4)).setCell ⟨gb297, 4, none⟩ (.string (⟨#[]⟩ : ByteArray)))) := ⟨by repeat (first | (with_reducible first | exact HB.out | apply below_alloc | apply pw_below_drewN | apply below_drew1 | refine below_set ?_ GE290.out | refine below_set ?_ GE297.out) | exact HB.out)⟩
     (try clear BK290)
     (try clear BK297)
     (try clear HB)
     generalize ((((((w20.setCell ⟨gb297, 0, none⟩ (.int .i64 a0_0)).setCell ⟨gb297, 1, none⟩ (.string a0_1)).setCell ⟨gb297, 2, none⟩ (.slice A0_2 l0_2.length c0_2)).setCell ⟨gb297, 3, none⟩ (.string a0_3)).setCell ⟨gb297, 4, none⟩ (.string a0_4)).setCell ⟨gb297, 4, none⟩ (.string (⟨#[]⟩ : ByteArray))) = w38 at n0_ n1_ n2_ ⊢
     have BK290 := n0_
     have BK297 := n1_
     have HB := n2_
     clear n0_ n1_ n2_
     have n0_ := Aside0.mk (blk_drew BK290.out)
     have n1_ := Aside0.mk (blk_drew BK297.out)
     have n2_ := Aside0.mk (below_drew1 HB.out)
     clear BK290
     clear BK297
     clear HB
     have BK290 := n0_
     have BK297 := n1_
     have HB := n2_
     clear n0_ n1_ n2_
     refine start_ (n := 19) (S := fun w' => w'.cell? ⟨gb290, 0, none⟩ = some (.int .i64 a0_0) ∧ w'.cell? ⟨gb290, 1, none⟩ = some (.string a0_1) ∧ w'.cell? ⟨gb290, 2, none⟩ = some (.slice A0_2 l0_2.length c0_2) ∧ w'.cell? ⟨gb290, 3, none⟩ = some (.string a0_3) ∧ w'.cell? ⟨gb290, 4, none⟩ = some (.string a0_4) ∧ w'.cell? ⟨gb297, 0, none⟩ = some (.int .i64 a0_0) ∧ w'.cell? ⟨gb297, 1, none⟩ = some (.string a0_1) ∧ w'.cell? ⟨gb297, 2, none⟩ = some (.slice A0_2 l0_2.length c0_2) ∧ w'.cell? ⟨gb297, 3, none⟩ = some (.string a0_3) ∧ w'.cell? ⟨gb297, 4, none⟩ = some (.string (⟨#[]⟩ : ByteArray))) (ds := []) #[false, false, false, false, false, false, false, false, false, false, false, false, false, false, false, false, false, false, false] (by kernel_rfl) rfl rfl ⟨(blk_cell BK290.out 0).trans rfl, (blk_cell BK290.out 1).trans rfl, (blk_cell BK290.out 2).trans rfl, (blk_cell BK290.out 3).trans rfl, (blk_cell BK290.out 4).trans rfl, (blk_cell BK297.out 0).trans rfl, (blk_cell BK297.out 1).trans rfl, (blk_cell BK297.out 2).trans rfl, (blk_cell BK297.out 3).trans rfl, (blk_cell BK297.out 4).trans rfl⟩ (fun hHeld => ?_); refine with_tabW palaverlaw06_EventRights.tab7 palaverlaw06_EventRights.bits7 (fun HT_ HW_ => ?_)
     generalize w38.drew = w39 at BK290 BK297 HB hHeld ⊢
     refine take_ (i := 0) (N := some 23) (v := ?_) (a' := ?_) #[true, false, false, false, false, false, false, false, false, false, false, false, false, false, false, false, false, false, false] rfl rfl (take_ofW HT_.out HW_.out (by kernel_rfl)) (fun _ _ _ h => h) (Or.inl ⟨by rfl, ?_⟩) hHeld ?_ ?_
     rotate_left
     ·rintro w' ⟨s0, s1, s2, s3, s4, s5, s6, s7, s8, s9⟩
      go_simp
      with_reducible rfl
     rotate_left
     ·simp only [pr_]
      rfl
     refine take_ (i := 2) (N := some 25) (v := ?_) (a' := ?_) #[true, false, true, false, false, false, false, false, false, false, false, false, false, false, false, false, false, false, false] rfl rfl (take_ofW HT_.out HW_.out (by kernel_rfl)) (fun _ _ _ h => h) (Or.inl ⟨by rfl, ?_⟩) hHeld ?_ ?_
     rotate_left
     ·rintro w' ⟨s0, s1, s2, s3, s4, s5, s6, s7, s8, s9⟩
      go_simp
      with_reducible rfl
     rotate_left
     ·simp only [pr_]
      rfl
     refine one_ (i := 1) (N := some 24) #[true, true, true, false, false, false, false, false, false, false, false, false, false, false, false, false, false, false, false] rfl rfl (one_of HT_.out (by kernel_rfl)) (by decide) (fun K hK => ?_)
     refine goes_ Tryd.func13 (by kernel_rfl) rfl #[.agg #[.int .i64 a0_0, .string a0_1, .slice A0_2 l0_2.length c0_2, .string a0_3, .string a0_4]] (by rfl) rfl rfl (by (try simp only [List.map_toArray, List.map_cons, List.map_nil]); first | done | rfl | (simp only [List.length_drop, List.length_take]; rfl)) ?_
     with_reducible refine (event_Right.calls k a0_0 a0_1 _ _ l0_2 a0_3 a0_4 t298 _ ?side1 ?side2 A23.out).mono ?_
     (case side1 => repeat (first | exact (Kd.C_below HR0_2.out HB.out) | (with_reducible refine Kd.C_alloc ?_ _) | (with_reducible refine Kd.C_drewN ?_ _) | (with_reducible refine Kd.C_drew ?_)))
     (case side2 => exact HC0_2.out)
     rintro e w40 ⟨rfl, hb⟩
     refine ⟨_, rfl, ?_⟩
     have n0_ := Aside0.mk (blk_below (g := gb290) (o := .cells #[.int .i64 a0_0, .string a0_1, .slice A0_2 l0_2.length c0_2, .string a0_3, .string a0_4] 24 (0, 0)) (by (with_reducible repeat (first | refine blk_drewN ?_ _ | refine blk_drew ?_ | refine blk_alloc ?_ _)); exact BK290.out) hb)
     have n1_ := Aside0.mk (blk_below (g := gb297) (o := .cells #[.int .i64 a0_0, .string a0_1, .slice A0_2 l0_2.length c0_2, .string a0_3, .string (⟨#[]⟩ : ByteArray)] 24 (0, 0)) (by (with_reducible repeat (first | refine blk_drewN ?_ _ | refine blk_drew ?_ | refine blk_alloc ?_ _)); exact BK297.out) hb)
     have n2_ := Aside0.mk (below_step (by repeat (first | (with_reducible first | exact HB.out | apply below_alloc | apply pw_below_drewN | apply below_drew1 | refine below_set ?_ GE290.out | refine below_set ?_ GE297.out) | exact HB.out)) hb)
     clear BK290
     clear BK297
     clear HB
     have BK290 := n0_
     have BK297 := n1_
     have HB := n2_
     clear n0_ n1_ n2_
     (try clear hb)
     (try clear hb2)
     (try clear hk)
     (try clear hi)
     refine hK.out _ _ ⟨(blk_cell BK290.out 0).trans rfl, (blk_cell BK290.out 1).trans rfl, (blk_cell BK290.out 2).trans rfl, (blk_cell BK290.out 3).trans rfl, (blk_cell BK290.out 4).trans rfl, (blk_cell BK297.out 0).trans rfl, (blk_cell BK297.out 1).trans rfl, (blk_cell BK297.out 2).trans rfl, (blk_cell BK297.out 3).trans rfl, (blk_cell BK297.out 4).trans rfl⟩ (fun hHeld => ?_)
     clear hK K
     refine norm_ (a' := ?_) ?_ ?_
     rotate_left
     ·show Act.put _ (some 24) _ = _
      simp only [pr_]
      rfl
     refine one_ (i := 3) (N := some 26) #[true, true, true, true, false, false, false, false, false, false, false, false, false, false, false, false, false, false, false] rfl rfl (one_of HT_.out (by kernel_rfl)) (by decide) (fun K hK => ?_)
     refine goes_ Tryd.func14 (by kernel_rfl) rfl #[.agg #[.int .i64 a0_0, .string a0_1, .slice A0_2 l0_2.length c0_2, .string a0_3, .string a0_4]] (by rfl) rfl rfl (by (try simp only [List.map_toArray, List.map_cons, List.map_nil]); first | done | rfl | (simp only [List.length_drop, List.length_take]; rfl)) ?_
     with_reducible refine (palaverref06_Right.calls k a0_0 a0_1 _ _ l0_2 a0_3 a0_4 t299 _ ?side1 ?side2 A24.out).mono ?_
     (case side1 => repeat (first | exact (Kd.C_below HR0_2.out HB.out) | (with_reducible refine Kd.C_alloc ?_ _) | (with_reducible refine Kd.C_drewN ?_ _) | (with_reducible refine Kd.C_drew ?_)))
     (case side2 => exact HC0_2.out)
     rintro e w41 ⟨rfl, hb⟩
     refine ⟨_, rfl, ?_⟩
     have n0_ := Aside0.mk (blk_below (g := gb290) (o := .cells #[.int .i64 a0_0, .string a0_1, .slice A0_2 l0_2.length c0_2, .string a0_3, .string a0_4] 24 (0, 0)) (by (with_reducible repeat (first | refine blk_drewN ?_ _ | refine blk_drew ?_ | refine blk_alloc ?_ _)); exact BK290.out) hb)
     have n1_ := Aside0.mk (blk_below (g := gb297) (o := .cells #[.int .i64 a0_0, .string a0_1, .slice A0_2 l0_2.length c0_2, .string a0_3, .string (⟨#[]⟩ : ByteArray)] 24 (0, 0)) (by (with_reducible repeat (first | refine blk_drewN ?_ _ | refine blk_drew ?_ | refine blk_alloc ?_ _)); exact BK297.out) hb)
     have n2_ := Aside0.mk (below_step (by repeat (first | (with_reducible first | exact HB.out | apply below_alloc | apply pw_below_drewN | apply below_drew1 | refine below_set ?_ GE290.out | refine below_set ?_ GE297.out) | exact HB.out)) hb)
     clear BK290
     clear BK297
     clear HB
     have BK290 := n0_
     have BK297 := n1_
     have HB := n2_
     clear n0_ n1_ n2_
     (try clear hb)
     (try clear hb2)
     (try clear hk)
     (try clear hi)
     refine hK.out _ _ ⟨(blk_cell BK290.out 0).trans rfl, (blk_cell BK290.out 1).trans rfl, (blk_cell BK290.out 2).trans rfl, (blk_cell BK290.out 3).trans rfl, (blk_cell BK290.out 4).trans rfl, (blk_cell BK297.out 0).trans rfl, (blk_cell BK297.out 1).trans rfl, (blk_cell BK297.out 2).trans rfl, (blk_cell BK297.out 3).trans rfl, (blk_cell BK297.out 4).trans rfl⟩ (fun hHeld => ?_)
     clear hK K
     refine norm_ (a' := ?_) ?_ ?_
     rotate_left
     ·show Act.put _ (some 26) _ = _
      simp only [pr_]
      rfl
     refine pure_ (i := 4) (N := some 27) (v := ?_) (a' := ?_) #[true, true, true, true, true, false, false, false, false, false, false, false, false, false, false, false, false, false, false] rfl rfl (any_of HT_.out (by kernel_rfl)) (fun _ _ _ h => h) (Or.inl ⟨by rfl, ?_⟩) ?_ ?_
     rotate_left
     ·intro w'
      go_simp
      with_reducible rfl
     rotate_left
     ·simp only [pr_]
      rfl
     refine pure_ (i := 5) (N := some 28) (v := ?_) (a' := ?_) #[true, true, true, true, true, true, false, false, false, false, false, false, false, false, false, false, false, false, false] rfl rfl (any_of HT_.out (by kernel_rfl)) (fun _ _ _ h => h) (Or.inl ⟨by rfl, ?_⟩) ?_ ?_
     rotate_left
     ·intro w'
      go_simp
      with_reducible rfl
     rotate_left
     ·simp only [pr_]
      rfl
     refine pure_ (i := 6) (N := some 29) (v := ?_) (a' := ?_) #[true, true, true, true, true, true, true, false, false, false, false, false, false, false, false, false, false, false, false] rfl rfl (any_of HT_.out (by kernel_rfl)) (fun _ _ _ h => h) (Or.inl ⟨by rfl, ?_⟩) ?_ ?_
     rotate_left
     ·intro w'
      go_simp
      with_reducible rfl
     rotate_left
     ·simp only [pr_]
      rfl
     refine pure_ (i := 7) (N := some 30) (v := ?_) (a' := ?_) #[true, true, true, true, true, true, true, true, false, false, false, false, false, false, false, false, false, false, false] rfl rfl (any_of HT_.out (by kernel_rfl)) (fun _ _ _ h => h) (Or.inl ⟨by rfl, ?_⟩) ?_ ?_
     rotate_left
     ·intro w'
      go_simp
      with_reducible rfl
     rotate_left
     ·simp only [pr_]
      rfl
     refine take_ (i := 8) (N := some 31) (v := ?_) (a' := ?_) #[true, true, true, true, true, true, true, true, true, false, false, false, false, false, false, false, false, false, false] rfl rfl (take_ofW HT_.out HW_.out (by kernel_rfl)) (fun _ _ _ h => h) (Or.inl ⟨by rfl, ?_⟩) hHeld ?_ ?_
     rotate_left
     ·rintro w' ⟨s0, s1, s2, s3, s4, s5, s6, s7, s8, s9⟩
      go_simp
      with_reducible rfl
     rotate_left
     ·simp only [pr_]
      rfl
     refine one_ (i := 9) (N := some 32) #[true, true, true, true, true, true, true, true, true, true, false, false, false, false, false, false, false, false, false] rfl rfl (one_of HT_.out (by kernel_rfl)) (by decide) (fun K hK => ?_)
     refine goes_ Tryd.func14 (by kernel_rfl) rfl #[.agg #[.int .i64 a0_0, .string a0_1, .slice A0_2 l0_2.length c0_2, .string a0_3, .string a0_4]] (by rfl) rfl rfl (by (try simp only [List.map_toArray, List.map_cons, List.map_nil]); first | done | rfl | (simp only [List.length_drop, List.length_take]; rfl)) ?_
     with_reducible refine (palaverref06_Right.calls k a0_0 a0_1 _ _ l0_2 a0_3 a0_4 t300 _ ?side1 ?side2 A30.out).mono ?_
     (case side1 => repeat (first | exact (Kd.C_below HR0_2.out HB.out) | (with_reducible refine Kd.C_alloc ?_ _) | (with_reducible refine Kd.C_drewN ?_ _) | (with_reducible refine Kd.C_drew ?_)))
     (case side2 => exact HC0_2.out)
     rintro e w42 ⟨rfl, hb⟩
     refine ⟨_, rfl, ?_⟩
     have n0_ := Aside0.mk (blk_below (g := gb290) (o := .cells #[.int .i64 a0_0, .string a0_1, .slice A0_2 l0_2.length c0_2, .string a0_3, .string a0_4] 24 (0, 0)) (by (with_reducible repeat (first | refine blk_drewN ?_ _ | refine blk_drew ?_ | refine blk_alloc ?_ _)); exact BK290.out) hb)
     have n1_ := Aside0.mk (blk_below (g := gb297) (o := .cells #[.int .i64 a0_0, .string a0_1, .slice A0_2 l0_2.length c0_2, .string a0_3, .string (⟨#[]⟩ : ByteArray)] 24 (0, 0)) (by (with_reducible repeat (first | refine blk_drewN ?_ _ | refine blk_drew ?_ | refine blk_alloc ?_ _)); exact BK297.out) hb)
     have n2_ := Aside0.mk (below_step (by repeat (first | (with_reducible first | exact HB.out | apply below_alloc | apply pw_below_drewN | apply below_drew1 | refine below_set ?_ GE290.out | refine below_set ?_ GE297.out) | exact HB.out)) hb)
     clear BK290
     clear BK297
     clear HB
     have BK290 := n0_
     have BK297 := n1_
     have HB := n2_
     clear n0_ n1_ n2_
     (try clear hb)
     (try clear hb2)
     (try clear hk)
     (try clear hi)
     refine hK.out _ _ ⟨(blk_cell BK290.out 0).trans rfl, (blk_cell BK290.out 1).trans rfl, (blk_cell BK290.out 2).trans rfl, (blk_cell BK290.out 3).trans rfl, (blk_cell BK290.out 4).trans rfl, (blk_cell BK297.out 0).trans rfl, (blk_cell BK297.out 1).trans rfl, (blk_cell BK297.out 2).trans rfl, (blk_cell BK297.out 3).trans rfl, (blk_cell BK297.out 4).trans rfl⟩ (fun hHeld => ?_)
     clear hK K
     refine norm_ (a' := ?_) ?_ ?_
     rotate_left
     ·show Act.put _ (some 32) _ = _
      simp only [pr_]
      rfl
     refine pure_ (i := 10) (N := some 33) (v := ?_) (a' := ?_) #[true, true, true, true, true, true, true, true, true, true, true, false, false, false, false, false, false, false, false] rfl rfl (any_of HT_.out (by kernel_rfl)) (fun _ _ _ h => h) (Or.inl ⟨by rfl, ?_⟩) ?_ ?_
     rotate_left
     ·intro w'
      go_simp
      with_reducible rfl
     rotate_left
     ·simp only [pr_]
      rfl
     refine pure_ (i := 11) (N := some 34) (v := ?_) (a' := ?_) #[true, true, true, true, true, true, true, true, true, true, true, true, false, false, false, false, false, false, false] rfl rfl (any_of HT_.out (by kernel_rfl)) (fun _ _ _ h => h) (Or.inl ⟨by rfl, ?_⟩) ?_ ?_
     rotate_left
     ·intro w'
      go_simp
      with_reducible rfl
     rotate_left
     ·simp only [pr_]
      rfl
     refine pure_ (i := 12) (N := some 35) (v := ?_) (a' := ?_) #[true, true, true, true, true, true, true, true, true, true, true, true, true, false, false, false, false, false, false] rfl rfl (any_of HT_.out (by kernel_rfl)) (fun _ _ _ h => h) (Or.inl ⟨by rfl, ?_⟩) ?_ ?_
     rotate_left
     ·intro w'
      go_simp
      with_reducible rfl
     rotate_left
     ·simp only [pr_]
      rfl
     refine pure_ (i := 13) (N := some 36) (v := ?_) (a' := ?_) #[true, true, true, true, true, true, true, true, true, true, true, true, true, true, false, false, false, false, false] rfl rfl (any_of HT_.out (by kernel_rfl)) (fun _ _ _ h => h) (Or.inl ⟨by rfl, ?_⟩) ?_ ?_
     rotate_left
     ·intro w'
      go_simp
      with_reducible rfl
     rotate_left
     ·simp only [pr_]
      rfl
     refine pure_ (i := 14) (N := some 37) (v := ?_) (a' := ?_) #[true, true, true, true, true, true, true, true, true, true, true, true, true, true, true, false, false, false, false] rfl rfl (any_of HT_.out (by kernel_rfl)) (fun _ _ _ h => h) (Or.inl ⟨by rfl, ?_⟩) ?_ ?_
     rotate_left
     ·intro w'
      go_simp
      with_reducible rfl
     rotate_left
     ·simp only [pr_]
      rfl
     refine take_ (i := 15) (N := some 38) (v := ?_) (a' := ?_) #[true, true, true, true, true, true, true, true, true, true, true, true, true, true, true, true, false, false, false] rfl rfl (take_ofW HT_.out HW_.out (by kernel_rfl)) (fun _ _ _ h => h) (Or.inl ⟨by rfl, ?_⟩) hHeld ?_ ?_
     rotate_left
     ·rintro w' ⟨s0, s1, s2, s3, s4, s5, s6, s7, s8, s9⟩
      go_simp
      with_reducible rfl
     rotate_left
     ·simp only [pr_]
      rfl
     refine one_ (i := 16) (N := some 39) #[true, true, true, true, true, true, true, true, true, true, true, true, true, true, true, true, true, false, false] rfl rfl (one_of HT_.out (by kernel_rfl)) (by decide) (fun K hK => ?_)
     refine goes_ Tryd.func14 (by kernel_rfl) rfl #[.agg #[.int .i64 a0_0, .string a0_1, .slice A0_2 l0_2.length c0_2, .string a0_3, .string (⟨#[]⟩ : ByteArray)]] (by rfl) rfl rfl (by (try simp only [List.map_toArray, List.map_cons, List.map_nil]); first | done | rfl | (simp only [List.length_drop, List.length_take]; rfl)) ?_
     with_reducible refine (palaverref06_Right.calls k a0_0 a0_1 _ _ l0_2 a0_3 (⟨#[]⟩ : ByteArray) t301 _ ?side1 ?side2 A37.out).mono ?_
     (case side1 => repeat (first | exact (Kd.C_below HR0_2.out HB.out) | (with_reducible refine Kd.C_alloc ?_ _) | (with_reducible refine Kd.C_drewN ?_ _) | (with_reducible refine Kd.C_drew ?_)))
     (case side2 => exact HC0_2.out)
     rintro e w43 ⟨rfl, hb⟩
     refine ⟨_, rfl, ?_⟩
     have n0_ := Aside0.mk (blk_below (g := gb290) (o := .cells #[.int .i64 a0_0, .string a0_1, .slice A0_2 l0_2.length c0_2, .string a0_3, .string a0_4] 24 (0, 0)) (by (with_reducible repeat (first | refine blk_drewN ?_ _ | refine blk_drew ?_ | refine blk_alloc ?_ _)); exact BK290.out) hb)
     have n1_ := Aside0.mk (blk_below (g := gb297) (o := .cells #[.int .i64 a0_0, .string a0_1, .slice A0_2 l0_2.length c0_2, .string a0_3, .string (⟨#[]⟩ : ByteArray)] 24 (0, 0)) (by (with_reducible repeat (first | refine blk_drewN ?_ _ | refine blk_drew ?_ | refine blk_alloc ?_ _)); exact BK297.out) hb)
     have n2_ := Aside0.mk (below_step (by repeat (first | (with_reducible first | exact HB.out | apply below_alloc | apply pw_below_drewN | apply below_drew1 | refine below_set ?_ GE290.out | refine below_set ?_ GE297.out) | exact HB.out)) hb)
     clear BK290
     clear BK297
     clear HB
     have BK290 := n0_
     have BK297 := n1_
     have HB := n2_
     clear n0_ n1_ n2_
     (try clear hb)
     (try clear hb2)
     (try clear hk)
     (try clear hi)
     refine hK.out _ _ ⟨(blk_cell BK290.out 0).trans rfl, (blk_cell BK290.out 1).trans rfl, (blk_cell BK290.out 2).trans rfl, (blk_cell BK290.out 3).trans rfl, (blk_cell BK290.out 4).trans rfl, (blk_cell BK297.out 0).trans rfl, (blk_cell BK297.out 1).trans rfl, (blk_cell BK297.out 2).trans rfl, (blk_cell BK297.out 3).trans rfl, (blk_cell BK297.out 4).trans rfl⟩ (fun hHeld => ?_)
     clear hK K
     refine norm_ (a' := ?_) ?_ ?_
     rotate_left
     ·show Act.put _ (some 39) _ = _
      simp only [pr_]
      rfl
     refine pure_ (i := 17) (N := some 40) (v := ?_) (a' := ?_) #[true, true, true, true, true, true, true, true, true, true, true, true, true, true, true, true, true, true, false] rfl rfl (any_of HT_.out (by kernel_rfl)) (fun _ _ _ h => h) (Or.inl ⟨by rfl, ?_⟩) ?_ ?_
     rotate_left
     ·intro w'
      go_simp
      with_reducible rfl
     rotate_left
     ·simp only [pr_]
      rfl
     refine pure_ (i := 18) (N := some 41) (v := ?_) (a' := ?_) #[true, true, true, true, true, true, true, true, true, true, true, true, true, true, true, true, true, true, true] rfl rfl (any_of HT_.out (by kernel_rfl)) (fun _ _ _ h => h) (Or.inl ⟨by rfl, ?_⟩) ?_ ?_
     rotate_left
     ·intro w'
      go_simp
      with_reducible rfl
     rotate_left
     ·simp only [pr_]
      rfl
     refine done_ (done_of HT_.out (by kernel_rfl)) ?_
     try go_wp2
     go_meet
     case rel => exact ⟨_, (((t296 == 0) != t301)), (by first | rfl | (simp; done) | (simp [*]; done) | exact congrArg Value.bool (nonempty_l _) | (refine congrArg (Value.int _) ?_; first | omega | (unfold Go.RowKit.wrap64; omega))), H', ⟨by first | omega | exact Nat.le_refl _⟩, ⟨by (with_reducible repeat (first | refine blk_drewN ?_ _ | refine blk_drew ?_ | refine blk_alloc ?_ _)); exact BK290.out⟩, ⟨by (with_reducible repeat (first | refine blk_drewN ?_ _ | refine blk_drew ?_ | refine blk_alloc ?_ _)); exact BK297.out⟩, ⟨by repeat (first | (with_reducible first | exact HB.out | apply below_alloc | apply pw_below_drewN | apply below_drew1 | refine below_set ?_ GE290.out | refine below_set ?_ GE297.out) | exact HB.out)⟩⟩
  case rest =>
   clear HC11
   (try clear c1); (try clear c2); (try clear p2); (try clear c3); (try clear p6); (try clear c13); (try clear c14); (try clear c25); (try clear c25b0); (try clear c25b1); (try clear c25b2); (try clear c31); (try clear c31b0); (try clear c31b1); (try clear c31b2)
   obtain ⟨kq, x41_10, rfl, HA, HJ10, BK290, BK297, HB⟩ := hcut
   cases kq with
   | zero => exact absurd HA.out (by simp [palaverlaw06_EventRights.j0])
   | succ kj10 =>
    have H := HA.out
    clear HA
    simp only [palaverlaw06_EventRights.j0] at H
    by_cases c44 : x41_10 = true
    ·subst c44
     have H1 : (some false) = some r := by rw [if_pos rfl] at H; exact H
     clear H
     have H := H1
     clear H1
     obtain rfl := Option.some.inj H
     go_wp2
     go_ret
     exact ⟨by first | rfl | (simp [errW_none, errW_some] <;> rfl) | (simp [*, errW_none, errW_some] <;> rfl), by repeat (first | (with_reducible first | exact HB.out | apply below_alloc | apply pw_below_drewN | apply below_drew1 | refine below_set ?_ GE290.out | refine below_set ?_ GE297.out) | exact HB.out)⟩
    ·replace c44 := Bool.eq_false_iff.mpr c44
     subst c44
     have H1 : (if t294 = 0 then ((palaverref06_Encode.f kj10 a0_0 a0_1 l0_2 a0_3 a0_4).bind fun t302 => (if t293.toList = t302.toList then (palaverlaw06_EventRights.j1 kj10 t295 t296 false a0_0 a0_1 l0_2 a0_3 (⟨#[]⟩ : ByteArray)) else (palaverlaw06_EventRights.j1 kj10 t295 t296 true a0_0 a0_1 l0_2 a0_3 (⟨#[]⟩ : ByteArray)))) else (if t293.toList = ([] : List UInt8) then (palaverlaw06_EventRights.j1 kj10 t295 t296 (t294 != 2) a0_0 a0_1 l0_2 a0_3 (⟨#[]⟩ : ByteArray)) else (palaverlaw06_EventRights.j1 kj10 t295 t296 true a0_0 a0_1 l0_2 a0_3 (⟨#[]⟩ : ByteArray)))) = some r := by rw [if_neg (show ¬ (false = true) by decide)] at H; exact H
     clear H
     have H := H1
     clear H1
     have HC45 := Aside0.mk H
     clear H
     go_upto_region 9 with (fail)
     go_cut [61] (fun v61 wc => ∃ (kq : Nat) (x61_44 : Bool), v61 = .bool x61_44 ∧ Aside0 (palaverlaw06_EventRights.j1 kq t295 t296 x61_44 a0_0 a0_1 l0_2 a0_3 (⟨#[]⟩ : ByteArray) = some r) ∧ Aside0 (kq ≤ kj10) ∧ Aside0 (wc.heap[gb290]? = some (.cells #[.int .i64 a0_0, .string a0_1, (.slice A0_2 l0_2.length c0_2), .string a0_3, .string a0_4] 24 (0, 0))) ∧ Aside0 (wc.heap[gb297]? = some (.cells #[.int .i64 a0_0, .string a0_1, (.slice A0_2 l0_2.length c0_2), .string a0_3, .string (⟨#[]⟩ : ByteArray)] 24 (0, 0))) ∧ Aside0 (Below w.heap.size w wc))
     case first =>
      have H := HC45.out
      clear HC45
      by_cases c46 : t294 = 0
      ·rw [if_pos c46] at H
       have c46b0 : (t294 == 0) = true := beq_iff_eq.mpr c46
       have c46b1 : (t294 != 0) = false := bne_eq_false_iff_eq.mpr c46
       clear c46
       (first | rw [c46b0] | (simp only [i64_w, i32_w]; rw [c46b0]) | skip)
       replace H := Option.bind_eq_some_iff.mp H
       obtain ⟨t302, A470, H⟩ := H
       replace H : (if t293.toList = t302.toList then (palaverlaw06_EventRights.j1 kj10 t295 t296 false a0_0 a0_1 l0_2 a0_3 (⟨#[]⟩ : ByteArray)) else (palaverlaw06_EventRights.j1 kj10 t295 t296 true a0_0 a0_1 l0_2 a0_3 (⟨#[]⟩ : ByteArray))) = some r := H
       have A47 := Aside0.mk A470
       clear A470
       by_cases c48 : t293.toList = t302.toList
       ·rw [if_pos c48] at H
        have c48b0 : (t293.toList == t302.toList) = true := beq_iff_eq.mpr c48
        have c48b1 : (t293.toList != t302.toList) = false := bne_eq_false_iff_eq.mpr c48
        clear c48
        have H' := Aside0.mk H
        clear H
        have hnb49 := NB290_297.out
        have hnc49 := NB297_290.out
        have hcz50_0 : wc.cell? ⟨gb290, 0, none⟩ = some (.int .i64 a0_0) := (blk_cell BK290.out 0).trans rfl
        have hcz50_1 : wc.cell? ⟨gb290, 1, none⟩ = some (.string a0_1) := (blk_cell BK290.out 1).trans rfl
        have hcz50_2 : wc.cell? ⟨gb290, 2, none⟩ = some (.slice A0_2 l0_2.length c0_2) := (blk_cell BK290.out 2).trans rfl
        have hcz50_3 : wc.cell? ⟨gb290, 3, none⟩ = some (.string a0_3) := (blk_cell BK290.out 3).trans rfl
        have hcz50_4 : wc.cell? ⟨gb290, 4, none⟩ = some (.string a0_4) := (blk_cell BK290.out 4).trans rfl
        have hfz50_0 := blk_frozen BK290.out 0
        have hfz50_1 := blk_frozen BK290.out 1
        have hfz50_2 := blk_frozen BK290.out 2
        have hfz50_3 := blk_frozen BK290.out 3
        have hfz50_4 := blk_frozen BK290.out 4
        go_wp2_with (first | (go_at_call 15; (with_reducible refine (palaverref06_Encode.calls kj10 a0_0 a0_1 _ _ l0_2 a0_3 a0_4 t302 _ ?side1 ?side2 A47.out).mono ?_); (case side1 => repeat (first | exact (Kd.C_below HR0_2.out HB.out) | (with_reducible refine Kd.C_alloc ?_ _) | (with_reducible refine Kd.C_drewN ?_ _) | (with_reducible refine Kd.C_drew ?_))); (case side2 => exact HC0_2.out); rintro e w51 ⟨rfl, hb⟩; have n0_ := Aside0.mk (blk_below (g := gb290) (o := .cells #[.int .i64 a0_0, .string a0_1, .slice A0_2 l0_2.length c0_2, .string a0_3, .string a0_4] 24 (0, 0)) (by (with_reducible repeat (first | refine blk_drewN ?_ _ | refine blk_drew ?_ | refine blk_alloc ?_ _)); exact BK290.out) hb); have n1_ := Aside0.mk (blk_below (g := gb297) (o := .cells #[.int .i64 a0_0, .string a0_1, .slice A0_2 l0_2.length c0_2, .string a0_3, .string (⟨#[]⟩ : ByteArray)] 24 (0, 0)) (by (with_reducible repeat (first | refine blk_drewN ?_ _ | refine blk_drew ?_ | refine blk_alloc ?_ _)); exact BK297.out) hb); have n2_ := Aside0.mk (below_step (by repeat (first | (with_reducible first | exact HB.out | apply below_alloc | apply pw_below_drewN | apply below_drew1 | refine below_set ?_ GE290.out | refine below_set ?_ GE297.out) | exact HB.out)) hb); clear BK290; clear BK297; clear HB; have BK290 := n0_; have BK297 := n1_; have HB := n2_; clear n0_ n1_ n2_; (try clear hb); (try clear hb2); (try clear hk); (try clear hi)))
        go_meet
        case rel => exact ⟨_, (false), (by first | rfl | (simp; done) | (simp [*]; done) | exact congrArg Value.bool (nonempty_l _) | (refine congrArg (Value.int _) ?_; first | omega | (unfold Go.RowKit.wrap64; omega))), H', ⟨by have := HJ10.out; first | omega | exact Nat.le_refl _⟩, ⟨by (with_reducible repeat (first | refine blk_drewN ?_ _ | refine blk_drew ?_ | refine blk_alloc ?_ _)); exact BK290.out⟩, ⟨by (with_reducible repeat (first | refine blk_drewN ?_ _ | refine blk_drew ?_ | refine blk_alloc ?_ _)); exact BK297.out⟩, ⟨by repeat (first | (with_reducible first | exact HB.out | apply below_alloc | apply pw_below_drewN | apply below_drew1 | refine below_set ?_ GE290.out | refine below_set ?_ GE297.out) | exact HB.out)⟩⟩
       ·rw [if_neg c48] at H
        have c48b0 : (t293.toList == t302.toList) = false := beq_eq_false_iff_ne.mpr c48
        have c48b1 : (t293.toList != t302.toList) = true := bne_iff_ne.mpr c48
        have H' := Aside0.mk H
        clear H
        have hnb52 := NB290_297.out
        have hnc52 := NB297_290.out
        have hcz53_0 : wc.cell? ⟨gb290, 0, none⟩ = some (.int .i64 a0_0) := (blk_cell BK290.out 0).trans rfl
        have hcz53_1 : wc.cell? ⟨gb290, 1, none⟩ = some (.string a0_1) := (blk_cell BK290.out 1).trans rfl
        have hcz53_2 : wc.cell? ⟨gb290, 2, none⟩ = some (.slice A0_2 l0_2.length c0_2) := (blk_cell BK290.out 2).trans rfl
        have hcz53_3 : wc.cell? ⟨gb290, 3, none⟩ = some (.string a0_3) := (blk_cell BK290.out 3).trans rfl
        have hcz53_4 : wc.cell? ⟨gb290, 4, none⟩ = some (.string a0_4) := (blk_cell BK290.out 4).trans rfl
        have hfz53_0 := blk_frozen BK290.out 0
        have hfz53_1 := blk_frozen BK290.out 1
        have hfz53_2 := blk_frozen BK290.out 2
        have hfz53_3 := blk_frozen BK290.out 3
        have hfz53_4 := blk_frozen BK290.out 4
        go_wp2_with (first | (go_at_call 15; (with_reducible refine (palaverref06_Encode.calls kj10 a0_0 a0_1 _ _ l0_2 a0_3 a0_4 t302 _ ?side1 ?side2 A47.out).mono ?_); (case side1 => repeat (first | exact (Kd.C_below HR0_2.out HB.out) | (with_reducible refine Kd.C_alloc ?_ _) | (with_reducible refine Kd.C_drewN ?_ _) | (with_reducible refine Kd.C_drew ?_))); (case side2 => exact HC0_2.out); rintro e w54 ⟨rfl, hb⟩; have n0_ := Aside0.mk (blk_below (g := gb290) (o := .cells #[.int .i64 a0_0, .string a0_1, .slice A0_2 l0_2.length c0_2, .string a0_3, .string a0_4] 24 (0, 0)) (by (with_reducible repeat (first | refine blk_drewN ?_ _ | refine blk_drew ?_ | refine blk_alloc ?_ _)); exact BK290.out) hb); have n1_ := Aside0.mk (blk_below (g := gb297) (o := .cells #[.int .i64 a0_0, .string a0_1, .slice A0_2 l0_2.length c0_2, .string a0_3, .string (⟨#[]⟩ : ByteArray)] 24 (0, 0)) (by (with_reducible repeat (first | refine blk_drewN ?_ _ | refine blk_drew ?_ | refine blk_alloc ?_ _)); exact BK297.out) hb); have n2_ := Aside0.mk (below_step (by repeat (first | (with_reducible first | exact HB.out | apply below_alloc | apply pw_below_drewN | apply below_drew1 | refine below_set ?_ GE290.out | refine below_set ?_ GE297.out) | exact HB.out)) hb); clear BK290; clear BK297; clear HB; have BK290 := n0_; have BK297 := n1_; have HB := n2_; clear n0_ n1_ n2_; (try clear hb); (try clear hb2); (try clear hk); (try clear hi)))
        go_meet
        case rel => exact ⟨_, (true), (by first | rfl | (simp; done) | (simp [*]; done) | exact congrArg Value.bool (nonempty_l _) | (refine congrArg (Value.int _) ?_; first | omega | (unfold Go.RowKit.wrap64; omega))), H', ⟨by have := HJ10.out; first | omega | exact Nat.le_refl _⟩, ⟨by (with_reducible repeat (first | refine blk_drewN ?_ _ | refine blk_drew ?_ | refine blk_alloc ?_ _)); exact BK290.out⟩, ⟨by (with_reducible repeat (first | refine blk_drewN ?_ _ | refine blk_drew ?_ | refine blk_alloc ?_ _)); exact BK297.out⟩, ⟨by repeat (first | (with_reducible first | exact HB.out | apply below_alloc | apply pw_below_drewN | apply below_drew1 | refine below_set ?_ GE290.out | refine below_set ?_ GE297.out) | exact HB.out)⟩⟩
      ·rw [if_neg c46] at H
       have c46b0 : (t294 == 0) = false := beq_eq_false_iff_ne.mpr c46
       have c46b1 : (t294 != 0) = true := bne_iff_ne.mpr c46
       (first | rw [c46b0] | (simp only [i64_w, i32_w]; rw [c46b0]) | skip)
       by_cases c55 : t293.toList = ([] : List UInt8)
       ·rw [if_pos c55] at H
        have c55b0 : (t293.toList == ([] : List UInt8)) = true := beq_iff_eq.mpr c55
        have c55b1 : (t293.toList != ([] : List UInt8)) = false := bne_eq_false_iff_eq.mpr c55
        clear c55
        have H' := Aside0.mk H
        clear H
        go_wp2
        go_meet
        case rel => exact ⟨_, ((t294 != 2)), (by first | rfl | (simp; done) | (simp [*]; done) | exact congrArg Value.bool (nonempty_l _) | (refine congrArg (Value.int _) ?_; first | omega | (unfold Go.RowKit.wrap64; omega))), H', ⟨by have := HJ10.out; first | omega | exact Nat.le_refl _⟩, ⟨by (with_reducible repeat (first | refine blk_drewN ?_ _ | refine blk_drew ?_ | refine blk_alloc ?_ _)); exact BK290.out⟩, ⟨by (with_reducible repeat (first | refine blk_drewN ?_ _ | refine blk_drew ?_ | refine blk_alloc ?_ _)); exact BK297.out⟩, ⟨by repeat (first | (with_reducible first | exact HB.out | apply below_alloc | apply pw_below_drewN | apply below_drew1 | refine below_set ?_ GE290.out | refine below_set ?_ GE297.out) | exact HB.out)⟩⟩
       ·rw [if_neg c55] at H
        have c55b0 : (t293.toList == ([] : List UInt8)) = false := beq_eq_false_iff_ne.mpr c55
        have c55b1 : (t293.toList != ([] : List UInt8)) = true := bne_iff_ne.mpr c55
        have H' := Aside0.mk H
        clear H
        go_wp2
        go_meet
        case rel => exact ⟨_, (true), (by first | rfl | (simp; done) | (simp [*]; done) | exact congrArg Value.bool (nonempty_l _) | (refine congrArg (Value.int _) ?_; first | omega | (unfold Go.RowKit.wrap64; omega))), H', ⟨by have := HJ10.out; first | omega | exact Nat.le_refl _⟩, ⟨by (with_reducible repeat (first | refine blk_drewN ?_ _ | refine blk_drew ?_ | refine blk_alloc ?_ _)); exact BK290.out⟩, ⟨by (with_reducible repeat (first | refine blk_drewN ?_ _ | refine blk_drew ?_ | refine blk_alloc ?_ _)); exact BK297.out⟩, ⟨by repeat (first | (with_reducible first | exact HB.out | apply below_alloc | apply pw_below_drewN | apply below_drew1 | refine below_set ?_ GE290.out | refine below_set ?_ GE297.out) | exact HB.out)⟩⟩
     case rest =>
      clear HC45
      (try clear c1); (try clear c2); (try clear p2); (try clear c3); (try clear c4); (try clear c5); (try clear p6); (try clear c13); (try clear c14); (try clear c25); (try clear c25b0); (try clear c25b1); (try clear c25b2); (try clear c31); (try clear c31b0); (try clear c31b1); (try clear c31b2); (try clear c44); (try clear c46); (try clear c46b0); (try clear c46b1); (try clear c48); (try clear c48b0); (try clear c48b1); (try clear c49); (try clear c52); (try clear c55); (try clear c55b0); (try clear c55b1); (try clear hcz50_0); (try clear hcz50_1); (try clear hcz50_2); (try clear hcz50_3); (try clear hcz50_4); (try clear hcz53_0); (try clear hcz53_1); (try clear hcz53_2); (try clear hcz53_3); (try clear hcz53_4); (try clear hfz50_0); (try clear hfz50_1); (try clear hfz50_2); (try clear hfz50_3); (try clear hfz50_4); (try clear hfz53_0); (try clear hfz53_1); (try clear hfz53_2); (try clear hfz53_3); (try clear hfz53_4); (try clear p2); (try clear p6)
      obtain ⟨kq, x61_44, rfl, HA, HJ44, BK290, BK297, HB⟩ := hcut
      cases kq with
      | zero => exact absurd HA.out (by simp [palaverlaw06_EventRights.j1])
      | succ kj44 =>
       have H := HA.out
       clear HA
       simp only [palaverlaw06_EventRights.j1] at H
       by_cases c56 : x61_44 = true
       ·subst c56
        have H1 : (some false) = some r := by rw [if_pos rfl] at H; exact H
        clear H
        have H := H1
        clear H1
        obtain rfl := Option.some.inj H
        go_wp2
        go_ret
        exact ⟨by first | rfl | (simp [errW_none, errW_some] <;> rfl) | (simp [*, errW_none, errW_some] <;> rfl), by repeat (first | (with_reducible first | exact HB.out | apply below_alloc | apply pw_below_drewN | apply below_drew1 | refine below_set ?_ GE290.out | refine below_set ?_ GE297.out) | exact HB.out)⟩
       ·replace c56 := Bool.eq_false_iff.mpr c56
        subst c56
        have H1 : (if t296 = 0 then ((palaverref06_Content.f kj44 a0_0 a0_1 l0_2 a0_3 (⟨#[]⟩ : ByteArray)).bind fun t303 => (if t295.toList = t303.toList then ((palaverlaw06_awake.f kj44).bind fun t304 => (some t304)) else (if t296 = 2 then (if t295.toList = ([] : List UInt8) then ((palaverlaw06_awake.f kj44).bind fun t305 => (some t305)) else (some false)) else (some false)))) else (if t296 = 2 then (if t295.toList = ([] : List UInt8) then ((palaverlaw06_awake.f kj44).bind fun t306 => (some t306)) else (some false)) else (some false))) = some r := by rw [if_neg (show ¬ (false = true) by decide)] at H; exact H
        clear H
        have H := H1
        clear H1
        by_cases c57 : t296 = 0
        ·rw [if_pos c57] at H
         have c57b0 : (t296 == 0) = true := beq_iff_eq.mpr c57
         have c57b1 : (t296 != 0) = false := bne_eq_false_iff_eq.mpr c57
         clear c57
         replace H := Option.bind_eq_some_iff.mp H
         obtain ⟨t303, A580, H⟩ := H
         replace H : (if t295.toList = t303.toList then ((palaverlaw06_awake.f kj44).bind fun t304 => (some t304)) else (if t296 = 2 then (if t295.toList = ([] : List UInt8) then ((palaverlaw06_awake.f kj44).bind fun t305 => (some t305)) else (some false)) else (some false))) = some r := H
         have A58 := Aside0.mk A580
         clear A580
         by_cases c59 : t295.toList = t303.toList
         ·rw [if_pos c59] at H
          have c59b0 : (t295.toList == t303.toList) = true := beq_iff_eq.mpr c59
          have c59b1 : (t295.toList != t303.toList) = false := bne_eq_false_iff_eq.mpr c59
          clear c59
          replace H := Option.bind_eq_some_iff.mp H
          obtain ⟨t304, A600, H⟩ := H
          replace H : (some t304) = some r := H
          have A60 := Aside0.mk A600
          clear A600
          obtain rfl := Option.some.inj H
          have hnb61 := NB297_290.out
          have hnc61 := NB290_297.out
          have hcz62_0 : wc.cell? ⟨gb297, 0, none⟩ = some (.int .i64 a0_0) := (blk_cell BK297.out 0).trans rfl
          have hcz62_1 : wc.cell? ⟨gb297, 1, none⟩ = some (.string a0_1) := (blk_cell BK297.out 1).trans rfl
          have hcz62_2 : wc.cell? ⟨gb297, 2, none⟩ = some (.slice A0_2 l0_2.length c0_2) := (blk_cell BK297.out 2).trans rfl
          have hcz62_3 : wc.cell? ⟨gb297, 3, none⟩ = some (.string a0_3) := (blk_cell BK297.out 3).trans rfl
          have hcz62_4 : wc.cell? ⟨gb297, 4, none⟩ = some (.string (⟨#[]⟩ : ByteArray)) := (blk_cell BK297.out 4).trans rfl
          have hfz62_0 := blk_frozen BK297.out 0
          have hfz62_1 := blk_frozen BK297.out 1
          have hfz62_2 := blk_frozen BK297.out 2
          have hfz62_3 := blk_frozen BK297.out 3
          have hfz62_4 := blk_frozen BK297.out 4
          go_wp2_with (first | (go_at_call 16; (with_reducible refine (palaverref06_Content.calls kj44 a0_0 a0_1 _ _ l0_2 a0_3 (⟨#[]⟩ : ByteArray) t303 _ ?side1 ?side2 A58.out).mono ?_); (case side1 => repeat (first | exact (Kd.C_below HR0_2.out HB.out) | (with_reducible refine Kd.C_alloc ?_ _) | (with_reducible refine Kd.C_drewN ?_ _) | (with_reducible refine Kd.C_drew ?_))); (case side2 => exact HC0_2.out); rintro e w63 ⟨rfl, hb⟩; have n0_ := Aside0.mk (blk_below (g := gb290) (o := .cells #[.int .i64 a0_0, .string a0_1, .slice A0_2 l0_2.length c0_2, .string a0_3, .string a0_4] 24 (0, 0)) (by (with_reducible repeat (first | refine blk_drewN ?_ _ | refine blk_drew ?_ | refine blk_alloc ?_ _)); exact BK290.out) hb); have n1_ := Aside0.mk (blk_below (g := gb297) (o := .cells #[.int .i64 a0_0, .string a0_1, .slice A0_2 l0_2.length c0_2, .string a0_3, .string (⟨#[]⟩ : ByteArray)] 24 (0, 0)) (by (with_reducible repeat (first | refine blk_drewN ?_ _ | refine blk_drew ?_ | refine blk_alloc ?_ _)); exact BK297.out) hb); have n2_ := Aside0.mk (below_step (by repeat (first | (with_reducible first | exact HB.out | apply below_alloc | apply pw_below_drewN | apply below_drew1 | refine below_set ?_ GE290.out | refine below_set ?_ GE297.out) | exact HB.out)) hb); clear BK290; clear BK297; clear HB; have BK290 := n0_; have BK297 := n1_; have HB := n2_; clear n0_ n1_ n2_; (try clear hb); (try clear hb2); (try clear hk); (try clear hi)) | (go_at_call 10; (with_reducible refine (palaverlaw06_awake.calls kj44  t304 _ ?side1 A60.out).mono ?_); (case side1 => repeat (first | exact (Kd.C_below HRG.out HB.out) | (with_reducible refine Kd.C_alloc ?_ _) | (with_reducible refine Kd.C_drewN ?_ _) | (with_reducible refine Kd.C_drew ?_))); rintro e w64 ⟨rfl, hb⟩; have n0_ := Aside0.mk (blk_below (g := gb290) (o := .cells #[.int .i64 a0_0, .string a0_1, .slice A0_2 l0_2.length c0_2, .string a0_3, .string a0_4] 24 (0, 0)) (by (with_reducible repeat (first | refine blk_drewN ?_ _ | refine blk_drew ?_ | refine blk_alloc ?_ _)); exact BK290.out) hb); have n1_ := Aside0.mk (blk_below (g := gb297) (o := .cells #[.int .i64 a0_0, .string a0_1, .slice A0_2 l0_2.length c0_2, .string a0_3, .string (⟨#[]⟩ : ByteArray)] 24 (0, 0)) (by (with_reducible repeat (first | refine blk_drewN ?_ _ | refine blk_drew ?_ | refine blk_alloc ?_ _)); exact BK297.out) hb); have n2_ := Aside0.mk (below_step (by repeat (first | (with_reducible first | exact HB.out | apply below_alloc | apply pw_below_drewN | apply below_drew1 | refine below_set ?_ GE290.out | refine below_set ?_ GE297.out) | exact HB.out)) hb); clear BK290; clear BK297; clear HB; have BK290 := n0_; have BK297 := n1_; have HB := n2_; clear n0_ n1_ n2_; (try clear hb); (try clear hb2); (try clear hk); (try clear hi)))
          go_ret
          exact ⟨by first | rfl | (simp [errW_none, errW_some] <;> rfl) | (simp [*, errW_none, errW_some] <;> rfl), by repeat (first | (with_reducible first | exact HB.out | apply below_alloc | apply pw_below_drewN | apply below_drew1 | refine below_set ?_ GE290.out | refine below_set ?_ GE297.out) | exact HB.out)⟩
         ·rw [if_neg c59] at H
          have c59b0 : (t295.toList == t303.toList) = false := beq_eq_false_iff_ne.mpr c59
          have c59b1 : (t295.toList != t303.toList) = true := bne_iff_ne.mpr c59
          by_cases c65 : t296 = 2
          ·rw [if_pos c65] at H
           have c65b0 : (t296 == 2) = true := beq_iff_eq.mpr c65
           have c65b1 : (t296 != 2) = false := bne_eq_false_iff_eq.mpr c65
           clear c65
           by_cases c66 : t295.toList = ([] : List UInt8)
           ·rw [if_pos c66] at H
            have c66b0 : (t295.toList == ([] : List UInt8)) = true := beq_iff_eq.mpr c66
            have c66b1 : (t295.toList != ([] : List UInt8)) = false := bne_eq_false_iff_eq.mpr c66
            clear c66
            replace H := Option.bind_eq_some_iff.mp H
            obtain ⟨t305, A670, H⟩ := H
            replace H : (some t305) = some r := H
            have A67 := Aside0.mk A670
            clear A670
            obtain rfl := Option.some.inj H
            have hnb68 := NB297_290.out
            have hnc68 := NB290_297.out
            have hcz69_0 : wc.cell? ⟨gb297, 0, none⟩ = some (.int .i64 a0_0) := (blk_cell BK297.out 0).trans rfl
            have hcz69_1 : wc.cell? ⟨gb297, 1, none⟩ = some (.string a0_1) := (blk_cell BK297.out 1).trans rfl
            have hcz69_2 : wc.cell? ⟨gb297, 2, none⟩ = some (.slice A0_2 l0_2.length c0_2) := (blk_cell BK297.out 2).trans rfl
            have hcz69_3 : wc.cell? ⟨gb297, 3, none⟩ = some (.string a0_3) := (blk_cell BK297.out 3).trans rfl
            have hcz69_4 : wc.cell? ⟨gb297, 4, none⟩ = some (.string (⟨#[]⟩ : ByteArray)) := (blk_cell BK297.out 4).trans rfl
            have hfz69_0 := blk_frozen BK297.out 0
            have hfz69_1 := blk_frozen BK297.out 1
            have hfz69_2 := blk_frozen BK297.out 2
            have hfz69_3 := blk_frozen BK297.out 3
            have hfz69_4 := blk_frozen BK297.out 4
            go_wp2_with (first | (go_at_call 16; (with_reducible refine (palaverref06_Content.calls kj44 a0_0 a0_1 _ _ l0_2 a0_3 (⟨#[]⟩ : ByteArray) t303 _ ?side1 ?side2 A58.out).mono ?_); (case side1 => repeat (first | exact (Kd.C_below HR0_2.out HB.out) | (with_reducible refine Kd.C_alloc ?_ _) | (with_reducible refine Kd.C_drewN ?_ _) | (with_reducible refine Kd.C_drew ?_))); (case side2 => exact HC0_2.out); rintro e w70 ⟨rfl, hb⟩; have n0_ := Aside0.mk (blk_below (g := gb290) (o := .cells #[.int .i64 a0_0, .string a0_1, .slice A0_2 l0_2.length c0_2, .string a0_3, .string a0_4] 24 (0, 0)) (by (with_reducible repeat (first | refine blk_drewN ?_ _ | refine blk_drew ?_ | refine blk_alloc ?_ _)); exact BK290.out) hb); have n1_ := Aside0.mk (blk_below (g := gb297) (o := .cells #[.int .i64 a0_0, .string a0_1, .slice A0_2 l0_2.length c0_2, .string a0_3, .string (⟨#[]⟩ : ByteArray)] 24 (0, 0)) (by (with_reducible repeat (first | refine blk_drewN ?_ _ | refine blk_drew ?_ | refine blk_alloc ?_ _)); exact BK297.out) hb); have n2_ := Aside0.mk (below_step (by repeat (first | (with_reducible first | exact HB.out | apply below_alloc | apply pw_below_drewN | apply below_drew1 | refine below_set ?_ GE290.out | refine below_set ?_ GE297.out) | exact HB.out)) hb); clear BK290; clear BK297; clear HB; have BK290 := n0_; have BK297 := n1_; have HB := n2_; clear n0_ n1_ n2_; (try clear hb); (try clear hb2); (try clear hk); (try clear hi)) | (go_at_call 10; (with_reducible refine (palaverlaw06_awake.calls kj44  t305 _ ?side1 A67.out).mono ?_); (case side1 => repeat (first | exact (Kd.C_below HRG.out HB.out) | (with_reducible refine Kd.C_alloc ?_ _) | (with_reducible refine Kd.C_drewN ?_ _) | (with_reducible refine Kd.C_drew ?_))); rintro e w71 ⟨rfl, hb⟩; have n0_ := Aside0.mk (blk_below (g := gb290) (o := .cells #[.int .i64 a0_0, .string a0_1, .slice A0_2 l0_2.length c0_2, .string a0_3, .string a0_4] 24 (0, 0)) (by (with_reducible repeat (first | refine blk_drewN ?_ _ | refine blk_drew ?_ | refine blk_alloc ?_ _)); exact BK290.out) hb); have n1_ := Aside0.mk (blk_below (g := gb297) (o := .cells #[.int .i64 a0_0, .string a0_1, .slice A0_2 l0_2.length c0_2, .string a0_3, .string (⟨#[]⟩ : ByteArray)] 24 (0, 0)) (by (with_reducible repeat (first | refine blk_drewN ?_ _ | refine blk_drew ?_ | refine blk_alloc ?_ _)); exact BK297.out) hb); have n2_ := Aside0.mk (below_step (by repeat (first | (with_reducible first | exact HB.out | apply below_alloc | apply pw_below_drewN | apply below_drew1 | refine below_set ?_ GE290.out | refine below_set ?_ GE297.out) | exact HB.out)) hb); clear BK290; clear BK297; clear HB; have BK290 := n0_; have BK297 := n1_; have HB := n2_; clear n0_ n1_ n2_; (try clear hb); (try clear hb2); (try clear hk); (try clear hi)))
            go_ret
            exact ⟨by first | rfl | (simp [errW_none, errW_some] <;> rfl) | (simp [*, errW_none, errW_some] <;> rfl), by repeat (first | (with_reducible first | exact HB.out | apply below_alloc | apply pw_below_drewN | apply below_drew1 | refine below_set ?_ GE290.out | refine below_set ?_ GE297.out) | exact HB.out)⟩
           ·rw [if_neg c66] at H
            have c66b0 : (t295.toList == ([] : List UInt8)) = false := beq_eq_false_iff_ne.mpr c66
            have c66b1 : (t295.toList != ([] : List UInt8)) = true := bne_iff_ne.mpr c66
            obtain rfl := Option.some.inj H
            have hnb72 := NB297_290.out
            have hnc72 := NB290_297.out
            have hcz73_0 : wc.cell? ⟨gb297, 0, none⟩ = some (.int .i64 a0_0) := (blk_cell BK297.out 0).trans rfl
            have hcz73_1 : wc.cell? ⟨gb297, 1, none⟩ = some (.string a0_1) := (blk_cell BK297.out 1).trans rfl
            have hcz73_2 : wc.cell? ⟨gb297, 2, none⟩ = some (.slice A0_2 l0_2.length c0_2) := (blk_cell BK297.out 2).trans rfl
            have hcz73_3 : wc.cell? ⟨gb297, 3, none⟩ = some (.string a0_3) := (blk_cell BK297.out 3).trans rfl
            have hcz73_4 : wc.cell? ⟨gb297, 4, none⟩ = some (.string (⟨#[]⟩ : ByteArray)) := (blk_cell BK297.out 4).trans rfl
            have hfz73_0 := blk_frozen BK297.out 0
            have hfz73_1 := blk_frozen BK297.out 1
            have hfz73_2 := blk_frozen BK297.out 2
            have hfz73_3 := blk_frozen BK297.out 3
            have hfz73_4 := blk_frozen BK297.out 4
            go_wp2_with (first | (go_at_call 16; (with_reducible refine (palaverref06_Content.calls kj44 a0_0 a0_1 _ _ l0_2 a0_3 (⟨#[]⟩ : ByteArray) t303 _ ?side1 ?side2 A58.out).mono ?_); (case side1 => repeat (first | exact (Kd.C_below HR0_2.out HB.out) | (with_reducible refine Kd.C_alloc ?_ _) | (with_reducible refine Kd.C_drewN ?_ _) | (with_reducible refine Kd.C_drew ?_))); (case side2 => exact HC0_2.out); rintro e w74 ⟨rfl, hb⟩; have n0_ := Aside0.mk (blk_below (g := gb290) (o := .cells #[.int .i64 a0_0, .string a0_1, .slice A0_2 l0_2.length c0_2, .string a0_3, .string a0_4] 24 (0, 0)) (by (with_reducible repeat (first | refine blk_drewN ?_ _ | refine blk_drew ?_ | refine blk_alloc ?_ _)); exact BK290.out) hb); have n1_ := Aside0.mk (blk_below (g := gb297) (o := .cells #[.int .i64 a0_0, .string a0_1, .slice A0_2 l0_2.length c0_2, .string a0_3, .string (⟨#[]⟩ : ByteArray)] 24 (0, 0)) (by (with_reducible repeat (first | refine blk_drewN ?_ _ | refine blk_drew ?_ | refine blk_alloc ?_ _)); exact BK297.out) hb); have n2_ := Aside0.mk (below_step (by repeat (first | (with_reducible first | exact HB.out | apply below_alloc | apply pw_below_drewN | apply below_drew1 | refine below_set ?_ GE290.out | refine below_set ?_ GE297.out) | exact HB.out)) hb); clear BK290; clear BK297; clear HB; have BK290 := n0_; have BK297 := n1_; have HB := n2_; clear n0_ n1_ n2_; (try clear hb); (try clear hb2); (try clear hk); (try clear hi)))
            go_ret
            exact ⟨by first | rfl | (simp [errW_none, errW_some] <;> rfl) | (simp [*, errW_none, errW_some] <;> rfl), by repeat (first | (with_reducible first | exact HB.out | apply below_alloc | apply pw_below_drewN | apply below_drew1 | refine below_set ?_ GE290.out | refine below_set ?_ GE297.out) | exact HB.out)⟩
          ·rw [if_neg c65] at H
           have c65b0 : (t296 == 2) = false := beq_eq_false_iff_ne.mpr c65
           have c65b1 : (t296 != 2) = true := bne_iff_ne.mpr c65
           obtain rfl := Option.some.inj H
           have hnb75 := NB297_290.out
           have hnc75 := NB290_297.out
           have hcz76_0 : wc.cell? ⟨gb297, 0, none⟩ = some (.int .i64 a0_0) := (blk_cell BK297.out 0).trans rfl
           have hcz76_1 : wc.cell? ⟨gb297, 1, none⟩ = some (.string a0_1) := (blk_cell BK297.out 1).trans rfl
           have hcz76_2 : wc.cell? ⟨gb297, 2, none⟩ = some (.slice A0_2 l0_2.length c0_2) := (blk_cell BK297.out 2).trans rfl
           have hcz76_3 : wc.cell? ⟨gb297, 3, none⟩ = some (.string a0_3) := (blk_cell BK297.out 3).trans rfl
           have hcz76_4 : wc.cell? ⟨gb297, 4, none⟩ = some (.string (⟨#[]⟩ : ByteArray)) := (blk_cell BK297.out 4).trans rfl
           have hfz76_0 := blk_frozen BK297.out 0
           have hfz76_1 := blk_frozen BK297.out 1
           have hfz76_2 := blk_frozen BK297.out 2
           have hfz76_3 := blk_frozen BK297.out 3
           have hfz76_4 := blk_frozen BK297.out 4
           go_wp2_with (first | (go_at_call 16; (with_reducible refine (palaverref06_Content.calls kj44 a0_0 a0_1 _ _ l0_2 a0_3 (⟨#[]⟩ : ByteArray) t303 _ ?side1 ?side2 A58.out).mono ?_); (case side1 => repeat (first | exact (Kd.C_below HR0_2.out HB.out) | (with_reducible refine Kd.C_alloc ?_ _) | (with_reducible refine Kd.C_drewN ?_ _) | (with_reducible refine Kd.C_drew ?_))); (case side2 => exact HC0_2.out); rintro e w77 ⟨rfl, hb⟩; have n0_ := Aside0.mk (blk_below (g := gb290) (o := .cells #[.int .i64 a0_0, .string a0_1, .slice A0_2 l0_2.length c0_2, .string a0_3, .string a0_4] 24 (0, 0)) (by (with_reducible repeat (first | refine blk_drewN ?_ _ | refine blk_drew ?_ | refine blk_alloc ?_ _)); exact BK290.out) hb); have n1_ := Aside0.mk (blk_below (g := gb297) (o := .cells #[.int .i64 a0_0, .string a0_1, .slice A0_2 l0_2.length c0_2, .string a0_3, .string (⟨#[]⟩ : ByteArray)] 24 (0, 0)) (by (with_reducible repeat (first | refine blk_drewN ?_ _ | refine blk_drew ?_ | refine blk_alloc ?_ _)); exact BK297.out) hb); have n2_ := Aside0.mk (below_step (by repeat (first | (with_reducible first | exact HB.out | apply below_alloc | apply pw_below_drewN | apply below_drew1 | refine below_set ?_ GE290.out | refine below_set ?_ GE297.out) | exact HB.out)) hb); clear BK290; clear BK297; clear HB; have BK290 := n0_; have BK297 := n1_; have HB := n2_; clear n0_ n1_ n2_; (try clear hb); (try clear hb2); (try clear hk); (try clear hi)))
           go_ret
           exact ⟨by first | rfl | (simp [errW_none, errW_some] <;> rfl) | (simp [*, errW_none, errW_some] <;> rfl), by repeat (first | (with_reducible first | exact HB.out | apply below_alloc | apply pw_below_drewN | apply below_drew1 | refine below_set ?_ GE290.out | refine below_set ?_ GE297.out) | exact HB.out)⟩
        ·rw [if_neg c57] at H
         have c57b0 : (t296 == 0) = false := beq_eq_false_iff_ne.mpr c57
         have c57b1 : (t296 != 0) = true := bne_iff_ne.mpr c57
         by_cases c78 : t296 = 2
         ·rw [if_pos c78] at H
          have c78b0 : (t296 == 2) = true := beq_iff_eq.mpr c78
          have c78b1 : (t296 != 2) = false := bne_eq_false_iff_eq.mpr c78
          clear c78
          by_cases c79 : t295.toList = ([] : List UInt8)
          ·rw [if_pos c79] at H
           have c79b0 : (t295.toList == ([] : List UInt8)) = true := beq_iff_eq.mpr c79
           have c79b1 : (t295.toList != ([] : List UInt8)) = false := bne_eq_false_iff_eq.mpr c79
           clear c79
           replace H := Option.bind_eq_some_iff.mp H
           obtain ⟨t306, A800, H⟩ := H
           replace H : (some t306) = some r := H
           have A80 := Aside0.mk A800
           clear A800
           obtain rfl := Option.some.inj H
           go_wp2_with (first | (go_at_call 10; (with_reducible refine (palaverlaw06_awake.calls kj44  t306 _ ?side1 A80.out).mono ?_); (case side1 => repeat (first | exact (Kd.C_below HRG.out HB.out) | (with_reducible refine Kd.C_alloc ?_ _) | (with_reducible refine Kd.C_drewN ?_ _) | (with_reducible refine Kd.C_drew ?_))); rintro e w81 ⟨rfl, hb⟩; have n0_ := Aside0.mk (blk_below (g := gb290) (o := .cells #[.int .i64 a0_0, .string a0_1, .slice A0_2 l0_2.length c0_2, .string a0_3, .string a0_4] 24 (0, 0)) (by (with_reducible repeat (first | refine blk_drewN ?_ _ | refine blk_drew ?_ | refine blk_alloc ?_ _)); exact BK290.out) hb); have n1_ := Aside0.mk (blk_below (g := gb297) (o := .cells #[.int .i64 a0_0, .string a0_1, .slice A0_2 l0_2.length c0_2, .string a0_3, .string (⟨#[]⟩ : ByteArray)] 24 (0, 0)) (by (with_reducible repeat (first | refine blk_drewN ?_ _ | refine blk_drew ?_ | refine blk_alloc ?_ _)); exact BK297.out) hb); have n2_ := Aside0.mk (below_step (by repeat (first | (with_reducible first | exact HB.out | apply below_alloc | apply pw_below_drewN | apply below_drew1 | refine below_set ?_ GE290.out | refine below_set ?_ GE297.out) | exact HB.out)) hb); clear BK290; clear BK297; clear HB; have BK290 := n0_; have BK297 := n1_; have HB := n2_; clear n0_ n1_ n2_; (try clear hb); (try clear hb2); (try clear hk); (try clear hi)))
           go_ret
           exact ⟨by first | rfl | (simp [errW_none, errW_some] <;> rfl) | (simp [*, errW_none, errW_some] <;> rfl), by repeat (first | (with_reducible first | exact HB.out | apply below_alloc | apply pw_below_drewN | apply below_drew1 | refine below_set ?_ GE290.out | refine below_set ?_ GE297.out) | exact HB.out)⟩
          ·rw [if_neg c79] at H
           have c79b0 : (t295.toList == ([] : List UInt8)) = false := beq_eq_false_iff_ne.mpr c79
           have c79b1 : (t295.toList != ([] : List UInt8)) = true := bne_iff_ne.mpr c79
           obtain rfl := Option.some.inj H
           go_wp2
           go_ret
           exact ⟨by first | rfl | (simp [errW_none, errW_some] <;> rfl) | (simp [*, errW_none, errW_some] <;> rfl), by repeat (first | (with_reducible first | exact HB.out | apply below_alloc | apply pw_below_drewN | apply below_drew1 | refine below_set ?_ GE290.out | refine below_set ?_ GE297.out) | exact HB.out)⟩
         ·rw [if_neg c78] at H
          have c78b0 : (t296 == 2) = false := beq_eq_false_iff_ne.mpr c78
          have c78b1 : (t296 != 2) = true := bne_iff_ne.mpr c78
          obtain rfl := Option.some.inj H
          go_wp2
          go_ret
          exact ⟨by first | rfl | (simp [errW_none, errW_some] <;> rfl) | (simp [*, errW_none, errW_some] <;> rfl), by repeat (first | (with_reducible first | exact HB.out | apply below_alloc | apply pw_below_drewN | apply below_drew1 | refine below_set ?_ GE290.out | refine below_set ?_ GE297.out) | exact HB.out)⟩

end Go.Proofs.YtmedpnclkbkiiaaDoor.PP
