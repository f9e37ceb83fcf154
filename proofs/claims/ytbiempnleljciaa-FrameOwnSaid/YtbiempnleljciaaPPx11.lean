-- WRITTEN BY a program of this work (wip/ownprint.py), for this seat
import Derived.Test.YtbiempnleljciaaPPx0
import Derived.Test.YtbiempnleljciaaPPx5
import Derived.Test.YtbiempnleljciaaPPx6
import Derived.Test.YtbiempnleljciaaPPx10
namespace Go.Proofs.Ytbiempnleljciaa.PP
open Go.RowKit Go.Proofs.YtbiempnleljciaaW.PrintWords Go.Proofs.YtbiempnleljciaaW.PrintLast Go.Proofs.YtbiempnleljciaaW.PrintMore
attribute [local go_sem] max2_int min2_int max_two min_two max_three min_three max_four min_four   -- for this text's walks alone
set_option linter.unusedVariables false
set_option linter.unusedSimpArgs false

/-! ### palaverref07_Decode: function 17 -/
mutual
def palaverref07_Decode.j0 : Nat → ByteArray → Bool → Option (Int × Int × List ByteArray × ByteArray × List ByteArray × Bool)
  | 0, _, _ => none
  | k + 1, x0, x20 => if x20 = true then (some (0, 0, ([] : List ByteArray), (⟨#[]⟩ : ByteArray), ([] : List ByteArray), false)) else (if 0 < (x0.size : Int) then (if 1 < (x0.size : Int) then (if (wrap64 (bt x0 0)) = 5 then ((palaverref07_text.f k x0 2).bind fun bt271 => (palaverref07_Decode.j3 k x0 (wrap64 (bt x0 0)) (wrap64 (bt x0 1)) ([] : List ByteArray) (⟨#[]⟩ : ByteArray) (([bt271.1] : List ByteArray)))) else (if (wrap64 (bt x0 0)) = 4 then (palaverref07_Decode.l0 k x0 (wrap64 (bt x0 1)) 2 0 (wrap64 (bt x0 0)) 0 (⟨#[]⟩ : ByteArray) ([] : List ByteArray)) else (if (wrap64 (bt x0 0)) ≤ 3 then (palaverref07_Decode.l1 k x0 (wrap64 (bt x0 1)) 2 0 (wrap64 (bt x0 0)) 0 ([] : List ByteArray) (⟨#[]⟩ : ByteArray)) else (palaverref07_Decode.j3 k x0 (wrap64 (bt x0 0)) 0 ([] : List ByteArray) (⟨#[]⟩ : ByteArray) ([] : List ByteArray))))) else (none)) else (none))
def palaverref07_Decode.j3 : Nat → ByteArray → Int → Int → List ByteArray → ByteArray → List ByteArray → Option (Int × Int × List ByteArray × ByteArray × List ByteArray × Bool)
  | 0, _, _, _, _, _, _ => none
  | k + 1, x0, x271000, x271001, x271002, x271003, x271004 => (palaverref07_Right.f k x271000 x271001 x271002 x271003 x271004).bind fun t286 => (if t286 = true then ((palaverref07_Encode.f k x271000 x271001 x271002 x271003 x271004).bind fun t287 => (if t287.toList = x0.toList then (some (x271000, x271001, x271002, x271003, x271004, true)) else (some (0, 0, ([] : List ByteArray), (⟨#[]⟩ : ByteArray), ([] : List ByteArray), false)))) else (some (0, 0, ([] : List ByteArray), (⟨#[]⟩ : ByteArray), ([] : List ByteArray), false)))
def palaverref07_Decode.l0 : Nat → ByteArray → Int → Int → Int → Int → Int → ByteArray → List ByteArray → Option (Int × Int × List ByteArray × ByteArray × List ByteArray × Bool)
  | 0, _, _, _, _, _, _, _, _ => none
  | k + 1, x0, x5, x6, x9, x271000, x271001, x271003, x271004 => if x9 < x5 then (if x6 ≥ 0 then ((palaverref07_text.f k x0 x6).bind fun bt276 => (if x271004.length < 8796093022208 then (palaverref07_Decode.l0 k x0 x5 bt276.2 (wrap64 (x9 + 1)) x271000 x271001 x271003 (x271004 ++ [bt276.1])) else (none))) else (palaverref07_Decode.j3 k x0 x271000 x271001 ([] : List ByteArray) x271003 x271004)) else (palaverref07_Decode.j3 k x0 x271000 x271001 ([] : List ByteArray) x271003 x271004)
def palaverref07_Decode.l1 : Nat → ByteArray → Int → Int → Int → Int → Int → List ByteArray → ByteArray → Option (Int × Int × List ByteArray × ByteArray × List ByteArray × Bool)
  | 0, _, _, _, _, _, _, _, _ => none
  | k + 1, x0, x5, x6, x12, x271000, x271001, x271002, x271003 => if x12 < x5 then (if x6 > (wrap64 ((x0.size : Int) - 32)) then (some (0, 0, ([] : List ByteArray), (⟨#[]⟩ : ByteArray), ([] : List ByteArray), false)) else (if 0 ≤ x6 then (if x6 ≤ (wrap64 (x6 + 32)) then (if (wrap64 (x6 + 32)) ≤ (x0.size : Int) then (if x271002.length < 8796093022208 then (palaverref07_Decode.l1 k x0 x5 (wrap64 (x6 + 32)) (wrap64 (x12 + 1)) x271000 x271001 (x271002 ++ [x0.extract (x6 : Int).toNat ((wrap64 (x6 + 32)) : Int).toNat]) x271003) else (none)) else (none)) else (none)) else (none))) else (if x271000 = 2 then ((palaverref07_text.f k x0 x6).bind fun bt284 => (palaverref07_Decode.j3 k x0 x271000 x271001 x271002 bt284.1 ([] : List ByteArray))) else (palaverref07_Decode.j3 k x0 x271000 x271001 x271002 x271003 ([] : List ByteArray)))
end
def palaverref07_Decode.f (k : Nat) (a0 : ByteArray) : Option (Int × Int × List ByteArray × ByteArray × List ByteArray × Bool) := if (a0.size : Int) < 2 then (palaverref07_Decode.j0 k a0 true) else (palaverref07_Decode.j0 k a0 (decide ((a0.size : Int) > 65535)))
theorem palaverref07_Decode.mono_l : ∀ k, (∀ y0 y1, LeO (palaverref07_Decode.j0 k y0 y1) (palaverref07_Decode.j0 (k + 1) y0 y1)) ∧ (∀ y0 y1 y2 y3 y4 y5, LeO (palaverref07_Decode.j3 k y0 y1 y2 y3 y4 y5) (palaverref07_Decode.j3 (k + 1) y0 y1 y2 y3 y4 y5)) ∧ (∀ y0 y1 y2 y3 y4 y5 y6 y7, LeO (palaverref07_Decode.l0 k y0 y1 y2 y3 y4 y5 y6 y7) (palaverref07_Decode.l0 (k + 1) y0 y1 y2 y3 y4 y5 y6 y7)) ∧ (∀ y0 y1 y2 y3 y4 y5 y6 y7, LeO (palaverref07_Decode.l1 k y0 y1 y2 y3 y4 y5 y6 y7) (palaverref07_Decode.l1 (k + 1) y0 y1 y2 y3 y4 y5 y6 y7))
  | 0 => ⟨fun _ _ r h => by simp [palaverref07_Decode.j0] at h, fun _ _ _ _ _ _ r h => by simp [palaverref07_Decode.j3] at h, fun _ _ _ _ _ _ _ _ r h => by simp [palaverref07_Decode.l0] at h, fun _ _ _ _ _ _ _ _ r h => by simp [palaverref07_Decode.l1] at h⟩
  | k + 1 => by
    obtain ⟨ih0, ih1, ih2, ih3⟩ := palaverref07_Decode.mono_l k
    refine ⟨?_, ?_, ?_, ?_⟩
    · intro y0 y1
      unfold palaverref07_Decode.j0
      repeat' first
      | (with_reducible exact ih0 _ _)
      | (with_reducible exact ih1 _ _ _ _ _ _)
      | (with_reducible exact ih2 _ _ _ _ _ _ _ _)
      | (with_reducible exact ih3 _ _ _ _ _ _ _ _)
      | (with_reducible exact palaverref07_Encode.mono _ _ _ _ _ _)
      | (with_reducible exact palaverref07_Right.mono _ _ _ _ _ _)
      | (with_reducible exact palaverref07_text.mono _ _ _)
      | (with_reducible exact LeO.refl _)
      | (with_reducible exact LeO.none _)
      | (with_reducible refine LeO.ite ?_ ?_)
      | (with_reducible refine LeO.bind ?_ (fun _ => ?_))
      | exact ih0 _ _
      | exact ih1 _ _ _ _ _ _
      | exact ih2 _ _ _ _ _ _ _ _
      | exact ih3 _ _ _ _ _ _ _ _
      | exact palaverref07_Encode.mono _ _ _ _ _ _
      | exact palaverref07_Right.mono _ _ _ _ _ _
      | exact palaverref07_text.mono _ _ _
      | exact LeO.none _
      | refine LeO.ite ?_ ?_
      | refine LeO.bind ?_ (fun _ => ?_)
    · intro y0 y1 y2 y3 y4 y5
      unfold palaverref07_Decode.j3
      repeat' first
      | (with_reducible exact ih0 _ _)
      | (with_reducible exact ih1 _ _ _ _ _ _)
      | (with_reducible exact ih2 _ _ _ _ _ _ _ _)
      | (with_reducible exact ih3 _ _ _ _ _ _ _ _)
      | (with_reducible exact palaverref07_Encode.mono _ _ _ _ _ _)
      | (with_reducible exact palaverref07_Right.mono _ _ _ _ _ _)
      | (with_reducible exact palaverref07_text.mono _ _ _)
      | (with_reducible exact LeO.refl _)
      | (with_reducible exact LeO.none _)
      | (with_reducible refine LeO.ite ?_ ?_)
      | (with_reducible refine LeO.bind ?_ (fun _ => ?_))
      | exact ih0 _ _
      | exact ih1 _ _ _ _ _ _
      | exact ih2 _ _ _ _ _ _ _ _
      | exact ih3 _ _ _ _ _ _ _ _
      | exact palaverref07_Encode.mono _ _ _ _ _ _
      | exact palaverref07_Right.mono _ _ _ _ _ _
      | exact palaverref07_text.mono _ _ _
      | exact LeO.none _
      | refine LeO.ite ?_ ?_
      | refine LeO.bind ?_ (fun _ => ?_)
    · intro y0 y1 y2 y3 y4 y5 y6 y7
      unfold palaverref07_Decode.l0
      repeat' first
      | (with_reducible exact ih0 _ _)
      | (with_reducible exact ih1 _ _ _ _ _ _)
      | (with_reducible exact ih2 _ _ _ _ _ _ _ _)
      | (with_reducible exact ih3 _ _ _ _ _ _ _ _)
      | (with_reducible exact palaverref07_Encode.mono _ _ _ _ _ _)
      | (with_reducible exact palaverref07_Right.mono _ _ _ _ _ _)
      | (with_reducible exact palaverref07_text.mono _ _ _)
      | (with_reducible exact LeO.refl _)
      | (with_reducible exact LeO.none _)
      | (with_reducible refine LeO.ite ?_ ?_)
      | (with_reducible refine LeO.bind ?_ (fun _ => ?_))
      | exact ih0 _ _
      | exact ih1 _ _ _ _ _ _
      | exact ih2 _ _ _ _ _ _ _ _
      | exact ih3 _ _ _ _ _ _ _ _
      | exact palaverref07_Encode.mono _ _ _ _ _ _
      | exact palaverref07_Right.mono _ _ _ _ _ _
      | exact palaverref07_text.mono _ _ _
      | exact LeO.none _
      | refine LeO.ite ?_ ?_
      | refine LeO.bind ?_ (fun _ => ?_)
    · intro y0 y1 y2 y3 y4 y5 y6 y7
      unfold palaverref07_Decode.l1
      repeat' first
      | (with_reducible exact ih0 _ _)
      | (with_reducible exact ih1 _ _ _ _ _ _)
      | (with_reducible exact ih2 _ _ _ _ _ _ _ _)
      | (with_reducible exact ih3 _ _ _ _ _ _ _ _)
      | (with_reducible exact palaverref07_Encode.mono _ _ _ _ _ _)
      | (with_reducible exact palaverref07_Right.mono _ _ _ _ _ _)
      | (with_reducible exact palaverref07_text.mono _ _ _)
      | (with_reducible exact LeO.refl _)
      | (with_reducible exact LeO.none _)
      | (with_reducible refine LeO.ite ?_ ?_)
      | (with_reducible refine LeO.bind ?_ (fun _ => ?_))
      | exact ih0 _ _
      | exact ih1 _ _ _ _ _ _
      | exact ih2 _ _ _ _ _ _ _ _
      | exact ih3 _ _ _ _ _ _ _ _
      | exact palaverref07_Encode.mono _ _ _ _ _ _
      | exact palaverref07_Right.mono _ _ _ _ _ _
      | exact palaverref07_text.mono _ _ _
      | exact LeO.none _
      | refine LeO.ite ?_ ?_
      | refine LeO.bind ?_ (fun _ => ?_)
theorem palaverref07_Decode.mono : ∀ a0 k, LeO (palaverref07_Decode.f k a0) (palaverref07_Decode.f (k + 1) a0) := by
  intro a0 k
  obtain ⟨ih0, ih1, ih2, ih3⟩ := palaverref07_Decode.mono_l k
  unfold palaverref07_Decode.f
  repeat' first
      | (with_reducible exact ih0 _ _)
      | (with_reducible exact ih1 _ _ _ _ _ _)
      | (with_reducible exact ih2 _ _ _ _ _ _ _ _)
      | (with_reducible exact ih3 _ _ _ _ _ _ _ _)
      | (with_reducible exact palaverref07_Encode.mono _ _ _ _ _ _)
      | (with_reducible exact palaverref07_Right.mono _ _ _ _ _ _)
      | (with_reducible exact palaverref07_text.mono _ _ _)
      | (with_reducible exact LeO.refl _)
      | (with_reducible exact LeO.none _)
      | (with_reducible refine LeO.ite ?_ ?_)
      | (with_reducible refine LeO.bind ?_ (fun _ => ?_))
      | exact ih0 _ _
      | exact ih1 _ _ _ _ _ _
      | exact ih2 _ _ _ _ _ _ _ _
      | exact ih3 _ _ _ _ _ _ _ _
      | exact palaverref07_Encode.mono _ _ _ _ _ _
      | exact palaverref07_Right.mono _ _ _ _ _ _
      | exact palaverref07_text.mono _ _ _
      | exact LeO.none _
      | refine LeO.ite ?_ ?_
      | refine LeO.bind ?_ (fun _ => ?_)
def palaverref07_Decode.T23 : Bool × List (List Nat × List Nat) := (true, [([], []), ([0], [0]), ([], []), ([], []), ([], []), ([4], [4]), ([2, 3, 5], [2, 3, 5]), ([6], [6]), ([1, 7], [1, 7]), ([0, 1, 2, 3, 4, 5, 6, 7, 8], []), ([9, 8, 8, 0, 1, 2, 3, 4, 5, 6, 7, 8], [8, 9])])
def palaverref07_Decode.B23 : List Nat := [0, 1, 0, 0, 0, 16, 60, 124, 255, 511, 1023]
theorem palaverref07_Decode.tab23 : rtab .any (opsOf Try.f17 23) = palaverref07_Decode.T23 := by kernel_rfl
theorem palaverref07_Decode.bits23 : waitsOk palaverref07_Decode.T23.2 palaverref07_Decode.B23 = true := by kernel_rfl
set_option maxHeartbeats 64000000 in
set_option maxRecDepth 100000 in
theorem palaverref07_Decode.calls (k : Nat) (a0 : ByteArray) (r1 : Int) (r2 : Int) (r3 : List ByteArray) (r4 : ByteArray) (r5 : List ByteArray) (r6 : Bool) (w : World) (h : palaverref07_Decode.f k a0 = some (r1, r2, r3, r4, r5, r6)) :
    Calls Try.prog 17 #[.string a0] w fun e w' => ∃ v2_ v4_ : Value, e = .returned (.tuple #[.agg #[.int .i64 r1, .int .i64 r2, v2_, .string r4, v4_], .bool r6]) ∧ Kd.R Kd.string 9 w' w.heap.size (fun k_ => some k_ ≠ (v4_ : Value).ownBlock) v2_ r3 ∧ Kd.R Kd.string 9 w' w.heap.size (fun k_ => some k_ ≠ (v2_ : Value).ownBlock) v4_ r5 ∧ Below w.heap.size w w' := by
  have hu24 := Try.underlying24
  have HB := Aside0.mk (Below.refl w.heap.size w)
  have H : (if (a0.size : Int) < 2 then (palaverref07_Decode.j0 k a0 true) else (palaverref07_Decode.j0 k a0 (decide ((a0.size : Int) > 65535)))) = some (r1, r2, r3, r4, r5, r6) := h
  clear h
  have HC2 := Aside0.mk H
  clear H
  go_enter Try.func17, Try.ntmps17
  go_upto_region 1 with (first | ((with_reducible refine gate_dst (N := 2) rfl ?_); (try (refine gate_guard (by rfl) ?_; dsimp only)); refine box_event ?hg (N := 2) ?hd (cs := #[.int .i64 0, .int .i64 0, .slice none 0 0, .string (⟨#[]⟩ : ByteArray), .slice none 0 0]) (t := 24) ?hr ?_; (case hd => rfl); (case hg => rfl); (case hr => first | (go_simp; done) | (go_simp; rfl)); intro gb269 hg w3 hbox hb; have n0_ := Aside0.mk (below_step (by repeat (first | (with_reducible first | exact HB.out | apply below_alloc | apply pw_below_drewN | apply below_drew1) | exact HB.out)) hb); have n1_ := Aside0.mk (hbox); have n2_ := Aside0.mk ((by rw [hg]; exact (below_size (by repeat (first | (with_reducible first | exact HB.out | apply below_alloc | apply pw_below_drewN | apply below_drew1) | exact HB.out))) : w.heap.size ≤ gb269)); have n3_ := Aside0.mk ((by rw [hg]; exact (below_size (by repeat (first | (with_reducible first | exact HB.out | apply below_alloc | apply pw_below_drewN | apply below_drew1) | exact HB.out))) : w.heap.size ≤ gb269)); clear HB; have HB := n0_; have BK269 := n1_; have GW269 := n2_; have GE269 := n3_; clear n0_ n1_ n2_ n3_; clear hb hbox hg))
  (try simp only [Act.put, List.setIfInBounds_toArray, List.set_cons_zero, List.set_cons_succ])
  go_cut [20] (fun v20 wc => ∃ (kq : Nat) (x20_1 : Bool), v20 = .bool x20_1 ∧ Aside0 (palaverref07_Decode.j0 kq a0 x20_1 = some (r1, r2, r3, r4, r5, r6)) ∧ Aside0 (kq ≤ k) ∧ Aside0 (wc.heap[gb269]? = some (.cells #[.int .i64 0, .int .i64 0, (.slice none 0 0), .string (⟨#[]⟩ : ByteArray), (.slice none 0 0)] 24 (0, 0))) ∧ Aside0 (Below w.heap.size w wc))
  case first =>
    have H := HC2.out
    clear HC2
    by_cases c4 : (a0.size : Int) < 2
    · rw [if_pos c4] at H
      have c4b0 : decide ((a0.size : Int) < 2) = true := decide_eq_true c4
      have c4b1 : decide (a0.size < 2) = true := decide_eq_true (by omega)
      clear c4
      (first | rw [c4b0] | (simp only [i64_w, i32_w]; rw [c4b0]) | skip)
      have H' := Aside0.mk H
      clear H
      go_wp2
      go_meet
      case rel => exact ⟨_, (true), (by first | rfl | (simp; done) | (simp [*]; done) | exact congrArg Value.bool (nonempty_l _) | (refine congrArg (Value.int _) ?_; first | omega | (unfold Go.RowKit.wrap64; omega))), H', ⟨by first | omega | exact Nat.le_refl _⟩, ⟨by (with_reducible repeat (first | refine blk_drewN ?_ _ | refine blk_drew ?_ | refine blk_alloc ?_ _)); exact BK269.out⟩, ⟨by repeat (first | (with_reducible first | exact HB.out | apply below_alloc | apply pw_below_drewN | apply below_drew1 | refine below_set ?_ GE269.out) | exact HB.out)⟩⟩
    · rw [if_neg c4] at H
      have c4b0 : decide ((a0.size : Int) < 2) = false := decide_eq_false c4
      have c4b1 : decide (a0.size < 2) = false := decide_eq_false (by omega)
      clear c4
      (first | rw [c4b0] | (simp only [i64_w, i32_w]; rw [c4b0]) | skip)
      have H' := Aside0.mk H
      clear H
      go_wp2
      go_meet
      case rel => exact ⟨_, (decide ((a0.size : Int) > 65535)), (by first | rfl | (simp; done) | (simp [*]; done) | exact congrArg Value.bool (nonempty_l _) | (refine congrArg (Value.int _) ?_; first | omega | (unfold Go.RowKit.wrap64; omega))), H', ⟨by first | omega | exact Nat.le_refl _⟩, ⟨by (with_reducible repeat (first | refine blk_drewN ?_ _ | refine blk_drew ?_ | refine blk_alloc ?_ _)); exact BK269.out⟩, ⟨by repeat (first | (with_reducible first | exact HB.out | apply below_alloc | apply pw_below_drewN | apply below_drew1 | refine below_set ?_ GE269.out) | exact HB.out)⟩⟩
  case rest =>
    clear HC2
    try clear c1
    try clear p2
    try clear c4
    try clear c4b0
    try clear c4b1
    obtain ⟨kq, x20_1, rfl, HA, HJ1, BK269, HB⟩ := hcut
    cases kq with
    | zero => exact absurd HA.out (by simp [palaverref07_Decode.j0])
    | succ kj1 =>
      have H := HA.out
      clear HA
      simp only [palaverref07_Decode.j0] at H
      by_cases c5 : x20_1 = true
      · subst c5
        have H1 : (some (0, 0, ([] : List ByteArray), (⟨#[]⟩ : ByteArray), ([] : List ByteArray), false)) = some (r1, r2, r3, r4, r5, r6) := by rw [if_pos rfl] at H; exact H
        clear H
        have H := H1
        clear H1
        simp only [Option.some.injEq, Prod.mk.injEq] at H
        obtain ⟨rfl, rfl, rfl, rfl, rfl, rfl⟩ := H
        have hcz6_0 : wc.cell? ⟨gb269, 0, none⟩ = some (.int .i64 0) := (blk_cell BK269.out 0).trans rfl
        have hcz6_1 : wc.cell? ⟨gb269, 1, none⟩ = some (.int .i64 0) := (blk_cell BK269.out 1).trans rfl
        have hcz6_2 : wc.cell? ⟨gb269, 2, none⟩ = some (.slice none 0 0) := (blk_cell BK269.out 2).trans rfl
        have hcz6_3 : wc.cell? ⟨gb269, 3, none⟩ = some (.string (⟨#[]⟩ : ByteArray)) := (blk_cell BK269.out 3).trans rfl
        have hcz6_4 : wc.cell? ⟨gb269, 4, none⟩ = some (.slice none 0 0) := (blk_cell BK269.out 4).trans rfl
        have hfz6_0 := blk_frozen BK269.out 0
        have hfz6_1 := blk_frozen BK269.out 1
        have hfz6_2 := blk_frozen BK269.out 2
        have hfz6_3 := blk_frozen BK269.out 3
        have hfz6_4 := blk_frozen BK269.out 4
        go_wp2
        refine bodyPost_ret (results_ct rfl _ _ gb269 24 #[.int .i64 0, .int .i64 0, .slice none 0 0, .string (⟨#[]⟩ : ByteArray), .slice none 0 0] (0, 0) _ rfl (by (with_reducible repeat (first | refine blk_drewN ?_ _ | refine blk_drew ?_ | refine blk_alloc ?_ _)); refine blk_put (cs := #[.int .i64 0, .int .i64 0, .slice none 0 0, .string (⟨#[]⟩ : ByteArray), .slice none 0 0]) ?_ 4 _ rfl; (with_reducible repeat (first | refine blk_drewN ?_ _ | refine blk_drew ?_ | refine blk_alloc ?_ _)); refine blk_put (cs := #[.int .i64 0, .int .i64 0, .slice none 0 0, .string (⟨#[]⟩ : ByteArray), .slice none 0 0]) ?_ 3 _ rfl; (with_reducible repeat (first | refine blk_drewN ?_ _ | refine blk_drew ?_ | refine blk_alloc ?_ _)); refine blk_put (cs := #[.int .i64 0, .int .i64 0, .slice none 0 0, .string (⟨#[]⟩ : ByteArray), .slice none 0 0]) ?_ 2 _ rfl; (with_reducible repeat (first | refine blk_drewN ?_ _ | refine blk_drew ?_ | refine blk_alloc ?_ _)); refine blk_put (cs := #[.int .i64 0, .int .i64 0, .slice none 0 0, .string (⟨#[]⟩ : ByteArray), .slice none 0 0]) ?_ 1 _ rfl; (with_reducible repeat (first | refine blk_drewN ?_ _ | refine blk_drew ?_ | refine blk_alloc ?_ _)); refine blk_put (cs := #[.int .i64 0, .int .i64 0, .slice none 0 0, .string (⟨#[]⟩ : ByteArray), .slice none 0 0]) ?_ 0 _ rfl; (with_reducible repeat (first | refine blk_drewN ?_ _ | refine blk_drew ?_ | refine blk_alloc ?_ _)); exact BK269.out) Try.underlying24 rfl (by kernel_rfl)) rfl ?_
        exact ⟨_, _, by first | rfl | (simp [errW_none, errW_some] <;> rfl) | (simp [*, errW_none, errW_some] <;> rfl), by first | exact Kd.R_nil _ _ _ _ _ | exact Kd.N_nil _ _ _ _ _ | exact Kd.V_nil _ _ _ _ _ | exact Kd.Q_nil _ _ _ _ _ | exact Kd.S_nil _ _ _ _ _, by first | exact Kd.R_nil _ _ _ _ _ | exact Kd.N_nil _ _ _ _ _ | exact Kd.V_nil _ _ _ _ _ | exact Kd.Q_nil _ _ _ _ _ | exact Kd.S_nil _ _ _ _ _, by repeat (first | (with_reducible first | exact HB.out | apply below_alloc | apply pw_below_drewN | apply below_drew1 | refine below_set ?_ GE269.out) | exact HB.out)⟩
      · replace c5 := Bool.eq_false_iff.mpr c5
        subst c5
        have H1 : (if 0 < (a0.size : Int) then (if 1 < (a0.size : Int) then (if (wrap64 (bt a0 0)) = 5 then ((palaverref07_text.f kj1 a0 2).bind fun bt271 => (palaverref07_Decode.j3 kj1 a0 (wrap64 (bt a0 0)) (wrap64 (bt a0 1)) ([] : List ByteArray) (⟨#[]⟩ : ByteArray) (([bt271.1] : List ByteArray)))) else (if (wrap64 (bt a0 0)) = 4 then (palaverref07_Decode.l0 kj1 a0 (wrap64 (bt a0 1)) 2 0 (wrap64 (bt a0 0)) 0 (⟨#[]⟩ : ByteArray) ([] : List ByteArray)) else (if (wrap64 (bt a0 0)) ≤ 3 then (palaverref07_Decode.l1 kj1 a0 (wrap64 (bt a0 1)) 2 0 (wrap64 (bt a0 0)) 0 ([] : List ByteArray) (⟨#[]⟩ : ByteArray)) else (palaverref07_Decode.j3 kj1 a0 (wrap64 (bt a0 0)) 0 ([] : List ByteArray) (⟨#[]⟩ : ByteArray) ([] : List ByteArray))))) else (none)) else (none)) = some (r1, r2, r3, r4, r5, r6) := by rw [if_neg (show ¬ (false = true) by decide)] at H; exact H
        clear H
        have H := H1
        clear H1
        by_cases c7 : 0 < (a0.size : Int)
        · rw [if_pos c7] at H
          have c7b0 : decide (0 < (a0.size : Int)) = true := decide_eq_true c7
          have c7b1 : decide (0 < a0.size) = true := decide_eq_true (by omega)
          clear c7
          by_cases c9 : 1 < (a0.size : Int)
          · rw [if_pos c9] at H
            have c9b0 : decide (1 < (a0.size : Int)) = true := decide_eq_true c9
            have c9b1 : decide (1 < a0.size) = true := decide_eq_true (by omega)
            clear c9
            have HC11 := Aside0.mk H
            clear H
            have p8 : 0 ≤ (0 : Int) := (by omega)
            have q8 : 0 < a0.size := (by have : (0 : Int) < (a0.size : Int) := of_decide_eq_true (by first | (with_reducible assumption) | assumption); omega)
            have hx8 : ∀ h : 0 < a0.size, ((a0[0]'h).toNat : Int) = bt a0 0 := bt_at a0 0
            clear p8
            have qi8 : (0 < (a0.size : Int)) = True := eq_true (of_decide_eq_true (by first | (with_reducible assumption) | assumption))
            replace q8 := eq_true q8
            go_upto_block 0 with (first | ((with_reducible refine gate_dst (N := 4) rfl ?_); (try (refine gate_guard (by rfl) ?_; dsimp only)); refine box_event ?hg (N := 4) ?hd (cs := #[.int .i64 0, .int .i64 0, .slice none 0 0, .string (⟨#[]⟩ : ByteArray), .slice none 0 0]) (t := 24) ?hr ?_; (case hd => rfl); (case hg => rfl); (case hr => first | (go_simp; done) | (go_simp; rfl)); intro gb270 hg w12 hbox hb; have n0_ := Aside0.mk (blk_below (g := gb269) (o := .cells #[.int .i64 0, .int .i64 0, .slice none 0 0, .string (⟨#[]⟩ : ByteArray), .slice none 0 0] 24 (0, 0)) (by (with_reducible repeat (first | refine blk_drewN ?_ _ | refine blk_drew ?_ | refine blk_alloc ?_ _)); exact BK269.out) hb); have n1_ := Aside0.mk (below_step (by repeat (first | (with_reducible first | exact HB.out | apply below_alloc | apply pw_below_drewN | apply below_drew1 | refine below_set ?_ GE269.out) | exact HB.out)) hb); have n2_ := Aside0.mk (hbox); have n3_ := Aside0.mk ((by rw [hg]; exact (below_size (by repeat (first | (with_reducible first | exact HB.out | apply below_alloc | apply pw_below_drewN | apply below_drew1 | refine below_set ?_ GE269.out) | exact HB.out))) : w.heap.size ≤ gb270)); have n4_ := Aside0.mk ((by rw [hg]; exact (below_size (by repeat (first | (with_reducible first | exact HB.out | apply below_alloc | apply pw_below_drewN | apply below_drew1 | refine below_set ?_ GE269.out) | exact HB.out))) : w.heap.size ≤ gb270)); have n5_ := Aside0.mk ((by rw [hg]; exact Nat.ne_of_lt (blk_lt (g := gb269) (o := .cells #[.int .i64 0, .int .i64 0, .slice none 0 0, .string (⟨#[]⟩ : ByteArray), .slice none 0 0] 24 (0, 0)) (by (with_reducible repeat (first | refine blk_drewN ?_ _ | refine blk_drew ?_ | refine blk_alloc ?_ _)); exact BK269.out)) : gb269 ≠ gb270)); have n6_ := Aside0.mk ((by rw [hg]; exact Nat.ne_of_gt (blk_lt (g := gb269) (o := .cells #[.int .i64 0, .int .i64 0, .slice none 0 0, .string (⟨#[]⟩ : ByteArray), .slice none 0 0] 24 (0, 0)) (by (with_reducible repeat (first | refine blk_drewN ?_ _ | refine blk_drew ?_ | refine blk_alloc ?_ _)); exact BK269.out)) : gb270 ≠ gb269)); clear BK269; clear HB; have BK269 := n0_; have HB := n1_; have BK270 := n2_; have GW270 := n3_; have GE270 := n4_; have NB269_270 := n5_; have NB270_269 := n6_; clear n0_ n1_ n2_ n3_ n4_ n5_ n6_; clear hb hbox hg; have hnb13 := NB270_269.out; have hnc13 := NB269_270.out; have hcz14_0 : w12.cell? ⟨gb270, 0, none⟩ = some (.int .i64 0) := (blk_cell BK270.out 0).trans rfl; have hcz14_1 : w12.cell? ⟨gb270, 1, none⟩ = some (.int .i64 0) := (blk_cell BK270.out 1).trans rfl; have hcz14_2 : w12.cell? ⟨gb270, 2, none⟩ = some (.slice none 0 0) := (blk_cell BK270.out 2).trans rfl; have hcz14_3 : w12.cell? ⟨gb270, 3, none⟩ = some (.string (⟨#[]⟩ : ByteArray)) := (blk_cell BK270.out 3).trans rfl; have hcz14_4 : w12.cell? ⟨gb270, 4, none⟩ = some (.slice none 0 0) := (blk_cell BK270.out 4).trans rfl; have hfz14_0 := blk_frozen BK270.out 0; have hfz14_1 := blk_frozen BK270.out 1; have hfz14_2 := blk_frozen BK270.out 2; have hfz14_3 := blk_frozen BK270.out 3; have hfz14_4 := blk_frozen BK270.out 4; have p10 : 0 ≤ (1 : Int) := (by omega); have q10 : 1 < a0.size := (by have : (1 : Int) < (a0.size : Int) := of_decide_eq_true (by first | (with_reducible assumption) | assumption); omega); have hx10 : ∀ h : 1 < a0.size, ((a0[1]'h).toNat : Int) = bt a0 1 := bt_at a0 1; clear p10; have qi10 : (1 < (a0.size : Int)) = True := eq_true (of_decide_eq_true (by first | (with_reducible assumption) | assumption)); replace q10 := eq_true q10))
            (try simp only [Act.put, List.setIfInBounds_toArray, List.set_cons_zero, List.set_cons_succ])
            go_cut [] (fun wc => ∃ (kq : Nat) (x270000_10 : Int) (x270001_10 : Int) (x270003_10 : ByteArray) (x271001_10 : Int) (x271002_10 : List ByteArray) (x271003_10 : ByteArray) (x271004_10 : List ByteArray) (u271002 : Value) (u271004 : Value), Aside0 (palaverref07_Decode.j3 kq a0 (wrap64 (bt a0 0)) x271001_10 x271002_10 x271003_10 x271004_10 = some (r1, r2, r3, r4, r5, r6)) ∧ Aside0 (kq ≤ kj1) ∧ Aside0 (Kd.R Kd.string 9 wc w.heap.size (fun k_ => some k_ ≠ (u271004 : Value).ownBlock) u271002 x271002_10) ∧ Aside0 (Kd.R Kd.string 9 wc w.heap.size (fun k_ => some k_ ≠ (u271002 : Value).ownBlock) u271004 x271004_10) ∧ Aside0 (wc.heap[gb269]? = some (.cells #[.int .i64 x270000_10, .int .i64 x270001_10, (.slice none 0 0), .string x270003_10, (.slice none 0 0)] 24 (0, 0))) ∧ Aside0 (wc.heap[gb270]? = some (.cells #[.int .i64 (wrap64 (bt a0 0)), .int .i64 x271001_10, u271002, .string x271003_10, u271004] 24 (0, 0))) ∧ Aside0 (Below w.heap.size w wc))
            case first =>
              have H := HC11.out
              clear HC11
              by_cases c15 : (wrap64 (bt a0 0)) = 5
              · rw [if_pos c15] at H
                have c15b0 : ((wrap64 (bt a0 0)) == 5) = true := beq_iff_eq.mpr c15
                have c15b1 : ((wrap64 (bt a0 0)) != 5) = false := bne_eq_false_iff_eq.mpr c15
                clear c15
                (first | rw [c15b0] | (simp only [i64_w, i32_w]; rw [c15b0]) | skip)
                replace H := Option.bind_eq_some_iff.mp H
                obtain ⟨⟨t271, t272⟩, A160, H⟩ := H
                replace H : (palaverref07_Decode.j3 kj1 a0 (wrap64 (bt a0 0)) (wrap64 (bt a0 1)) ([] : List ByteArray) (⟨#[]⟩ : ByteArray) (([t271] : List ByteArray))) = some (r1, r2, r3, r4, r5, r6) := H
                have A16 := Aside0.mk A160
                clear A160
                obtain ⟨y273, hy273⟩ : ∃ y_ : List ByteArray, y_ = (([t271] : List ByteArray)) := ⟨_, rfl⟩
                replace H : (palaverref07_Decode.j3 kj1 a0 (wrap64 (bt a0 0)) (wrap64 (bt a0 1)) ([] : List ByteArray) (⟨#[]⟩ : ByteArray) y273) = some (r1, r2, r3, r4, r5, r6) := by first | (rw [hy273]; with_reducible exact H) | (have H2_ := (Option.bind_some _ _).symm.trans H; rw [hy273]; with_reducible exact H2_) | (have H2_ := (Option.bind_some _ _).symm.trans H; with_reducible exact H2_) | with_reducible exact H | (rw [hy273]; exact H) | exact H
                have Ny273 := Aside0.mk hy273
                clear hy273
                have H' := Aside0.mk H
                clear H
                have hnb17 := NB270_269.out
                have hnc17 := NB269_270.out
                have hcz18_0 : w12.cell? ⟨gb270, 0, none⟩ = some (.int .i64 0) := (blk_cell BK270.out 0).trans rfl
                have hcz18_1 : w12.cell? ⟨gb270, 1, none⟩ = some (.int .i64 0) := (blk_cell BK270.out 1).trans rfl
                have hcz18_2 : w12.cell? ⟨gb270, 2, none⟩ = some (.slice none 0 0) := (blk_cell BK270.out 2).trans rfl
                have hcz18_3 : w12.cell? ⟨gb270, 3, none⟩ = some (.string (⟨#[]⟩ : ByteArray)) := (blk_cell BK270.out 3).trans rfl
                have hcz18_4 : w12.cell? ⟨gb270, 4, none⟩ = some (.slice none 0 0) := (blk_cell BK270.out 4).trans rfl
                have hfz18_0 := blk_frozen BK270.out 0
                have hfz18_1 := blk_frozen BK270.out 1
                have hfz18_2 := blk_frozen BK270.out 2
                have hfz18_3 := blk_frozen BK270.out 3
                have hfz18_4 := blk_frozen BK270.out 4
                go_wp2_with (first | ((with_reducible refine gate_callee (f := 35) rfl ?_); refine goesL_ (some 37) rfl rfl Try.func35 (by kernel_rfl) rfl #[.string a0, .int .i64 2] rfl (by (try simp only [List.map_toArray, List.map_cons, List.map_nil]); first | done | rfl | (simp only [List.length_drop, List.length_take]; rfl)) ?_; (with_reducible refine (palaverref07_text.calls kj1 a0 2 t271 t272 _ A16.out).mono ?_); rintro e w' ⟨rfl, ⟨nd, rfl⟩⟩; refine ⟨_, rfl, ?_⟩) | ((with_reducible refine gate_dst (N := 41) rfl ?_); (try (refine gate_guard (by rfl) ?_; dsimp only)); refine Kd.R_lit Kd.string _ 9 ?hg (N := 41) ?hd (xs := ([t271] : List ByteArray)) (inner := [.string t271]) (ok := fun _ => True) (okp := fun _ => True) ?hr ?hp (fun _ hk => hk) trivial (Below.refl _ _) (Nat.le_refl _) (by simp) ?_; (case hd => rfl); (case hg => rfl); (case hr => first | (go_simp; done) | (go_simp; rfl)); (case hp => exact (Reps.one (show Kd.M Kd.string _ _ _ t271 [.string t271] from rfl) (Reps.none _ _))); intro v274 w19 ho20 hb hg_ hnew_; clear hg_ hnew_; (first | rw [← Ny273.out] at ho20 | (simp only [Int.reduceToNat] at ho20; rw [← Ny273.out] at ho20)); have n0_ := Aside0.mk (Kd.R_lower ho20 (below_size (by repeat (first | (with_reducible first | exact HB.out | apply below_alloc | apply pw_below_drewN | apply below_drew1 | refine below_set ?_ GE269.out | refine below_set ?_ GE270.out) | exact HB.out)))); have n1_ := Aside0.mk (blk_below (g := gb269) (o := .cells #[.int .i64 0, .int .i64 0, .slice none 0 0, .string (⟨#[]⟩ : ByteArray), .slice none 0 0] 24 (0, 0)) (by (with_reducible repeat (first | refine blk_drewN ?_ _ | refine blk_drew ?_ | refine blk_alloc ?_ _)); refine blk_far ?_ NB269_270.out _; (with_reducible repeat (first | refine blk_drewN ?_ _ | refine blk_drew ?_ | refine blk_alloc ?_ _)); refine blk_far ?_ NB269_270.out _; (with_reducible repeat (first | refine blk_drewN ?_ _ | refine blk_drew ?_ | refine blk_alloc ?_ _)); refine blk_far ?_ NB269_270.out _; (with_reducible repeat (first | refine blk_drewN ?_ _ | refine blk_drew ?_ | refine blk_alloc ?_ _)); refine blk_far ?_ NB269_270.out _; (with_reducible repeat (first | refine blk_drewN ?_ _ | refine blk_drew ?_ | refine blk_alloc ?_ _)); refine blk_far ?_ NB269_270.out _; (with_reducible repeat (first | refine blk_drewN ?_ _ | refine blk_drew ?_ | refine blk_alloc ?_ _)); refine blk_far ?_ NB269_270.out _; (with_reducible repeat (first | refine blk_drewN ?_ _ | refine blk_drew ?_ | refine blk_alloc ?_ _)); exact BK269.out) hb); have n2_ := Aside0.mk (blk_below (g := gb270) (o := .cells #[.int .i64 (wrap64 (bt a0 0)), .int .i64 (wrap64 (bt a0 1)), .slice none 0 0, .string (⟨#[]⟩ : ByteArray), .slice none 0 0] 24 (0, 0)) (by (with_reducible repeat (first | refine blk_drewN ?_ _ | refine blk_drew ?_ | refine blk_alloc ?_ _)); refine blk_put (cs := #[.int .i64 (wrap64 (bt a0 0)), .int .i64 0, .slice none 0 0, .string (⟨#[]⟩ : ByteArray), .slice none 0 0]) ?_ 1 _ rfl; (with_reducible repeat (first | refine blk_drewN ?_ _ | refine blk_drew ?_ | refine blk_alloc ?_ _)); refine blk_put (cs := #[.int .i64 (wrap64 (bt a0 0)), .int .i64 0, .slice none 0 0, .string (⟨#[]⟩ : ByteArray), .slice none 0 0]) ?_ 4 _ rfl; (with_reducible repeat (first | refine blk_drewN ?_ _ | refine blk_drew ?_ | refine blk_alloc ?_ _)); refine blk_put (cs := #[.int .i64 (wrap64 (bt a0 0)), .int .i64 0, .slice none 0 0, .string (⟨#[]⟩ : ByteArray), .slice none 0 0]) ?_ 3 _ rfl; (with_reducible repeat (first | refine blk_drewN ?_ _ | refine blk_drew ?_ | refine blk_alloc ?_ _)); refine blk_put (cs := #[.int .i64 (wrap64 (bt a0 0)), .int .i64 0, .slice none 0 0, .string (⟨#[]⟩ : ByteArray), .slice none 0 0]) ?_ 2 _ rfl; (with_reducible repeat (first | refine blk_drewN ?_ _ | refine blk_drew ?_ | refine blk_alloc ?_ _)); refine blk_put (cs := #[.int .i64 (wrap64 (bt a0 0)), .int .i64 0, .slice none 0 0, .string (⟨#[]⟩ : ByteArray), .slice none 0 0]) ?_ 1 _ rfl; (with_reducible repeat (first | refine blk_drewN ?_ _ | refine blk_drew ?_ | refine blk_alloc ?_ _)); refine blk_put (cs := #[.int .i64 0, .int .i64 0, .slice none 0 0, .string (⟨#[]⟩ : ByteArray), .slice none 0 0]) ?_ 0 _ rfl; (with_reducible repeat (first | refine blk_drewN ?_ _ | refine blk_drew ?_ | refine blk_alloc ?_ _)); exact BK270.out) hb); have n3_ := Aside0.mk (below_step (by repeat (first | (with_reducible first | exact HB.out | apply below_alloc | apply pw_below_drewN | apply below_drew1 | refine below_set ?_ GE269.out | refine below_set ?_ GE270.out) | exact HB.out)) hb); clear BK269; clear BK270; clear HB; have HO275 := n0_; have BK269 := n1_; have BK270 := n2_; have HB := n3_; clear n0_ n1_ n2_ n3_; clear hb ho20; obtain ⟨Ao21, co21, eo21⟩ := Kd.R_slice HO275.out; subst eo21; have hcz22_0 : w19.cell? ⟨gb270, 0, none⟩ = some (.int .i64 (wrap64 (bt a0 0))) := (blk_cell BK270.out 0).trans rfl; have hcz22_1 : w19.cell? ⟨gb270, 1, none⟩ = some (.int .i64 (wrap64 (bt a0 1))) := (blk_cell BK270.out 1).trans rfl; have hcz22_2 : w19.cell? ⟨gb270, 2, none⟩ = some (.slice none 0 0) := (blk_cell BK270.out 2).trans rfl; have hcz22_3 : w19.cell? ⟨gb270, 3, none⟩ = some (.string (⟨#[]⟩ : ByteArray)) := (blk_cell BK270.out 3).trans rfl; have hcz22_4 : w19.cell? ⟨gb270, 4, none⟩ = some (.slice none 0 0) := (blk_cell BK270.out 4).trans rfl; have hfz22_0 := blk_frozen BK270.out 0; have hfz22_1 := blk_frozen BK270.out 1; have hfz22_2 := blk_frozen BK270.out 2; have hfz22_3 := blk_frozen BK270.out 3; have hfz22_4 := blk_frozen BK270.out 4))
                go_meet
                case rel => exact ⟨_, (0), (0), ((⟨#[]⟩ : ByteArray)), (wrap64 (bt a0 1)), (([] : List ByteArray)), ((⟨#[]⟩ : ByteArray)), (y273), (.slice none 0 0), (.slice Ao21 y273.length co21), H', ⟨by have := HJ1.out; first | omega | exact Nat.le_refl _⟩, ⟨by first | exact Kd.R_nil _ _ _ _ _ | exact Kd.N_nil _ _ _ _ _ | exact Kd.V_nil _ _ _ _ _ | exact Kd.Q_nil _ _ _ _ _ | exact Kd.S_nil _ _ _ _ _⟩, ⟨by (with_reducible repeat (first | apply Kd.R_alloc | apply Kd.R_drewN | apply Kd.R_drew)); exact Kd.R_mono (Kd.R_far (p := ⟨gb270, 4, none⟩) (Kd.R_types HO275.out BK270.out (by decide)) (fun _ hk => hk.2) (.slice Ao21 y273.length co21)) (fun _ hk => (by simp [Value.ownBlock]))⟩, ⟨by (with_reducible repeat (first | refine blk_drewN ?_ _ | refine blk_drew ?_ | refine blk_alloc ?_ _)); refine blk_far ?_ NB269_270.out _; (with_reducible repeat (first | refine blk_drewN ?_ _ | refine blk_drew ?_ | refine blk_alloc ?_ _)); exact BK269.out⟩, ⟨by (with_reducible repeat (first | refine blk_drewN ?_ _ | refine blk_drew ?_ | refine blk_alloc ?_ _)); refine blk_put (cs := #[.int .i64 (wrap64 (bt a0 0)), .int .i64 (wrap64 (bt a0 1)), .slice none 0 0, .string (⟨#[]⟩ : ByteArray), .slice none 0 0]) ?_ 4 _ rfl; (with_reducible repeat (first | refine blk_drewN ?_ _ | refine blk_drew ?_ | refine blk_alloc ?_ _)); exact BK270.out⟩, ⟨by repeat (first | (with_reducible first | exact HB.out | apply below_alloc | apply pw_below_drewN | apply below_drew1 | refine below_set ?_ GE269.out | refine below_set ?_ GE270.out) | exact HB.out)⟩⟩
              · rw [if_neg c15] at H
                have c15b0 : ((wrap64 (bt a0 0)) == 5) = false := beq_eq_false_iff_ne.mpr c15
                have c15b1 : ((wrap64 (bt a0 0)) != 5) = true := bne_iff_ne.mpr c15
                (first | rw [c15b0] | (simp only [i64_w, i32_w]; rw [c15b0]) | skip)
                by_cases c23 : (wrap64 (bt a0 0)) = 4
                · rw [if_pos c23] at H
                  have c23b0 : ((wrap64 (bt a0 0)) == 4) = true := beq_iff_eq.mpr c23
                  have c23b1 : ((wrap64 (bt a0 0)) != 4) = false := bne_eq_false_iff_eq.mpr c23
                  clear c23
                  have H' := Aside0.mk H
                  clear H
                  have hnb24 := NB270_269.out
                  have hnc24 := NB269_270.out
                  have hcz25_0 : w12.cell? ⟨gb270, 0, none⟩ = some (.int .i64 0) := (blk_cell BK270.out 0).trans rfl
                  have hcz25_1 : w12.cell? ⟨gb270, 1, none⟩ = some (.int .i64 0) := (blk_cell BK270.out 1).trans rfl
                  have hcz25_2 : w12.cell? ⟨gb270, 2, none⟩ = some (.slice none 0 0) := (blk_cell BK270.out 2).trans rfl
                  have hcz25_3 : w12.cell? ⟨gb270, 3, none⟩ = some (.string (⟨#[]⟩ : ByteArray)) := (blk_cell BK270.out 3).trans rfl
                  have hcz25_4 : w12.cell? ⟨gb270, 4, none⟩ = some (.slice none 0 0) := (blk_cell BK270.out 4).trans rfl
                  have hfz25_0 := blk_frozen BK270.out 0
                  have hfz25_1 := blk_frozen BK270.out 1
                  have hfz25_2 := blk_frozen BK270.out 2
                  have hfz25_3 := blk_frozen BK270.out 3
                  have hfz25_4 := blk_frozen BK270.out 4
                  go_wp2
                  go_loopg [6, 9] kj1 (fun kq v6 v9 w' => ∃ (x6_2 : Int) (x9_2 : Int) (x271004_2 : List ByteArray) (u271004 : Value), v6 = .int .i64 x6_2 ∧ v9 = .int .i64 x9_2 ∧ Aside0 (palaverref07_Decode.l0 kq a0 (wrap64 (bt a0 1)) x6_2 x9_2 (wrap64 (bt a0 0)) 0 (⟨#[]⟩ : ByteArray) x271004_2 = some (r1, r2, r3, r4, r5, r6)) ∧ Aside0 (kq ≤ kj1) ∧ Aside0 (Kd.R Kd.string 9 w' w.heap.size (fun _ => True) u271004 x271004_2) ∧ Aside0 (w'.heap[gb269]? = some (.cells #[.int .i64 0, .int .i64 0, (.slice none 0 0), .string (⟨#[]⟩ : ByteArray), (.slice none 0 0)] 24 (0, 0))) ∧ Aside0 (w'.heap[gb270]? = some (.cells #[.int .i64 (wrap64 (bt a0 0)), .int .i64 0, (.slice none 0 0), .string (⟨#[]⟩ : ByteArray), u271004] 24 (0, 0))) ∧ Aside0 (Below w.heap.size w w'))
                  case atStart => exact ⟨(2), (0), (([] : List ByteArray)), (.slice none 0 0), (by first | rfl | (simp; done) | (simp [*]; done) | exact congrArg Value.bool (nonempty_l _) | (refine congrArg (Value.int _) ?_; first | omega | (unfold Go.RowKit.wrap64; omega))), (by first | rfl | (simp; done) | (simp [*]; done) | exact congrArg Value.bool (nonempty_l _) | (refine congrArg (Value.int _) ?_; first | omega | (unfold Go.RowKit.wrap64; omega))), H', ⟨Nat.le_refl _⟩, ⟨by first | exact Kd.R_nil _ _ _ _ _ | exact Kd.N_nil _ _ _ _ _ | exact Kd.V_nil _ _ _ _ _ | exact Kd.Q_nil _ _ _ _ _ | exact Kd.S_nil _ _ _ _ _⟩, ⟨by (with_reducible repeat (first | refine blk_drewN ?_ _ | refine blk_drew ?_ | refine blk_alloc ?_ _)); refine blk_far ?_ NB269_270.out _; (with_reducible repeat (first | refine blk_drewN ?_ _ | refine blk_drew ?_ | refine blk_alloc ?_ _)); refine blk_far ?_ NB269_270.out _; (with_reducible repeat (first | refine blk_drewN ?_ _ | refine blk_drew ?_ | refine blk_alloc ?_ _)); refine blk_far ?_ NB269_270.out _; (with_reducible repeat (first | refine blk_drewN ?_ _ | refine blk_drew ?_ | refine blk_alloc ?_ _)); refine blk_far ?_ NB269_270.out _; (with_reducible repeat (first | refine blk_drewN ?_ _ | refine blk_drew ?_ | refine blk_alloc ?_ _)); refine blk_far ?_ NB269_270.out _; (with_reducible repeat (first | refine blk_drewN ?_ _ | refine blk_drew ?_ | refine blk_alloc ?_ _)); exact BK269.out⟩, ⟨by (with_reducible repeat (first | refine blk_drewN ?_ _ | refine blk_drew ?_ | refine blk_alloc ?_ _)); refine blk_put (cs := #[.int .i64 (wrap64 (bt a0 0)), .int .i64 0, .slice none 0 0, .string (⟨#[]⟩ : ByteArray), .slice none 0 0]) ?_ 4 _ rfl; (with_reducible repeat (first | refine blk_drewN ?_ _ | refine blk_drew ?_ | refine blk_alloc ?_ _)); refine blk_put (cs := #[.int .i64 (wrap64 (bt a0 0)), .int .i64 0, .slice none 0 0, .string (⟨#[]⟩ : ByteArray), .slice none 0 0]) ?_ 3 _ rfl; (with_reducible repeat (first | refine blk_drewN ?_ _ | refine blk_drew ?_ | refine blk_alloc ?_ _)); refine blk_put (cs := #[.int .i64 (wrap64 (bt a0 0)), .int .i64 0, .slice none 0 0, .string (⟨#[]⟩ : ByteArray), .slice none 0 0]) ?_ 2 _ rfl; (with_reducible repeat (first | refine blk_drewN ?_ _ | refine blk_drew ?_ | refine blk_alloc ?_ _)); refine blk_put (cs := #[.int .i64 (wrap64 (bt a0 0)), .int .i64 0, .slice none 0 0, .string (⟨#[]⟩ : ByteArray), .slice none 0 0]) ?_ 1 _ rfl; (with_reducible repeat (first | refine blk_drewN ?_ _ | refine blk_drew ?_ | refine blk_alloc ?_ _)); refine blk_put (cs := #[.int .i64 0, .int .i64 0, .slice none 0 0, .string (⟨#[]⟩ : ByteArray), .slice none 0 0]) ?_ 0 _ rfl; (with_reducible repeat (first | refine blk_drewN ?_ _ | refine blk_drew ?_ | refine blk_alloc ?_ _)); exact BK270.out⟩, ⟨by repeat (first | (with_reducible first | exact HB.out | apply below_alloc | apply pw_below_drewN | apply below_drew1 | refine below_set ?_ GE269.out | refine below_set ?_ GE270.out) | exact HB.out)⟩⟩
                  case round =>
                    clear H'
                    try clear c1
                    try clear p1
                    try clear q1
                    try clear hx1
                    try clear qi1
                    try clear c2
                    try clear p2
                    try clear c3
                    try clear c4
                    try clear c4b0
                    try clear c4b1
                    try clear c5
                    try clear p6
                    try clear c7
                    try clear c7b0
                    try clear c7b1
                    try clear p8
                    try clear q8
                    try clear hx8
                    try clear qi8
                    try clear c9
                    try clear c9b0
                    try clear c9b1
                    try clear p10
                    try clear q10
                    try clear hx10
                    try clear qi10
                    try clear c13
                    try clear c15
                    try clear c15b0
                    try clear c15b1
                    try clear c17
                    try clear c23
                    try clear c23b0
                    try clear c23b1
                    try clear c24
                    try clear hcz14_0
                    try clear hcz14_1
                    try clear hcz14_2
                    try clear hcz14_3
                    try clear hcz14_4
                    try clear hcz18_0
                    try clear hcz18_1
                    try clear hcz18_2
                    try clear hcz18_3
                    try clear hcz18_4
                    try clear hcz22_0
                    try clear hcz22_1
                    try clear hcz22_2
                    try clear hcz22_3
                    try clear hcz22_4
                    try clear hcz25_0
                    try clear hcz25_1
                    try clear hcz25_2
                    try clear hcz25_3
                    try clear hcz25_4
                    try clear hcz6_0
                    try clear hcz6_1
                    try clear hcz6_2
                    try clear hcz6_3
                    try clear hcz6_4
                    try clear hfz14_0
                    try clear hfz14_1
                    try clear hfz14_2
                    try clear hfz14_3
                    try clear hfz14_4
                    try clear hfz18_0
                    try clear hfz18_1
                    try clear hfz18_2
                    try clear hfz18_3
                    try clear hfz18_4
                    try clear hfz22_0
                    try clear hfz22_1
                    try clear hfz22_2
                    try clear hfz22_3
                    try clear hfz22_4
                    try clear hfz25_0
                    try clear hfz25_1
                    try clear hfz25_2
                    try clear hfz25_3
                    try clear hfz25_4
                    try clear hfz6_0
                    try clear hfz6_1
                    try clear hfz6_2
                    try clear hfz6_3
                    try clear hfz6_4
                    try clear p10
                    try clear p2
                    try clear p8
                    try clear q10
                    try clear q8
                    obtain ⟨x6_2, x9_2, x271004_2, u271004, rfl, rfl, HA, HK2, HO_271004, BK269, BK270, HB⟩ := hrel
                    cases gk with
                    | zero => exact absurd HA.out (by simp [palaverref07_Decode.l0])
                    | succ k2 =>
                      have H := HA.out
                      clear HA
                      simp only [palaverref07_Decode.l0] at H
                      by_cases c26 : x9_2 < (wrap64 (bt a0 1))
                      · rw [if_pos c26] at H
                        have c26b0 : decide (x9_2 < (wrap64 (bt a0 1))) = true := decide_eq_true c26
                        clear c26
                        by_cases c27 : x6_2 ≥ 0
                        · rw [if_pos c27] at H
                          have c27b0 : decide (0 ≤ x6_2) = true := decide_eq_true c27
                          clear c27
                          replace H := Option.bind_eq_some_iff.mp H
                          obtain ⟨⟨t276, t277⟩, A280, H⟩ := H
                          replace H : (if x271004_2.length < 8796093022208 then (palaverref07_Decode.l0 k2 a0 (wrap64 (bt a0 1)) t277 (wrap64 (x9_2 + 1)) (wrap64 (bt a0 0)) 0 (⟨#[]⟩ : ByteArray) (x271004_2 ++ [t276])) else (none)) = some (r1, r2, r3, r4, r5, r6) := H
                          have A28 := Aside0.mk A280
                          clear A280
                          by_cases c29 : x271004_2.length < 8796093022208
                          · rw [if_pos c29] at H
                            have LMc29 := Aside0.mk c29
                            clear c29
                            obtain ⟨y278, hy278⟩ : ∃ y_ : List ByteArray, y_ = (x271004_2 ++ [t276]) := ⟨_, rfl⟩
                            replace H : (palaverref07_Decode.l0 k2 a0 (wrap64 (bt a0 1)) t277 (wrap64 (x9_2 + 1)) (wrap64 (bt a0 0)) 0 (⟨#[]⟩ : ByteArray) y278) = some (r1, r2, r3, r4, r5, r6) := by first | (rw [hy278]; with_reducible exact H) | (have H2_ := (Option.bind_some _ _).symm.trans H; rw [hy278]; with_reducible exact H2_) | (have H2_ := (Option.bind_some _ _).symm.trans H; with_reducible exact H2_) | with_reducible exact H | (rw [hy278]; exact H) | exact H
                            have Ny278 := Aside0.mk hy278
                            clear hy278
                            have H' := Aside0.mk H
                            clear H
                            go_wp2_with (first | ((with_reducible refine gate_callee (f := 35) rfl ?_); refine goesL_ (some 59) rfl rfl Try.func35 (by kernel_rfl) rfl #[.string a0, .int .i64 x6_2] rfl (by (try simp only [List.map_toArray, List.map_cons, List.map_nil]); first | done | rfl | (simp only [List.length_drop, List.length_take]; rfl)) ?_; (with_reducible refine (palaverref07_text.calls k2 a0 x6_2 t276 t277 _ A28.out).mono ?_); rintro e w' ⟨rfl, ⟨nd, rfl⟩⟩; refine ⟨_, rfl, ?_⟩; (try (rw [drewN_self wr]; generalize hq_ : World.drewN wr _ = wr; have n0_ : Aside0 (Kd.R Kd.string 9 wr w.heap.size (fun _ => True) u271004 x271004_2) := ⟨by rw [← hq_]; exact (by (with_reducible repeat (first | apply Kd.R_alloc | apply Kd.R_drewN | apply Kd.R_drew)); exact HO_271004.out)⟩; have n1_ : Aside0 (wr.heap[gb269]? = some (.cells #[.int .i64 0, .int .i64 0, .slice none 0 0, .string (⟨#[]⟩ : ByteArray), .slice none 0 0] 24 (0, 0))) := ⟨by rw [← hq_]; exact (by (with_reducible repeat (first | refine blk_drewN ?_ _ | refine blk_drew ?_ | refine blk_alloc ?_ _)); exact BK269.out)⟩; have n2_ : Aside0 (wr.heap[gb270]? = some (.cells #[.int .i64 (wrap64 (bt a0 0)), .int .i64 0, .slice none 0 0, .string (⟨#[]⟩ : ByteArray), u271004] 24 (0, 0))) := ⟨by rw [← hq_]; exact (by (with_reducible repeat (first | refine blk_drewN ?_ _ | refine blk_drew ?_ | refine blk_alloc ?_ _)); exact BK270.out)⟩; have n3_ : Aside0 (Below w.heap.size w wr) := ⟨by rw [← hq_]; exact (by repeat (first | (with_reducible first | exact HB.out | apply below_alloc | apply pw_below_drewN | apply below_drew1 | refine below_set ?_ GE269.out | refine below_set ?_ GE270.out) | exact HB.out))⟩; clear HO_271004 BK269 BK270 HB hq_; have HO_271004 := n0_; have BK269 := n1_; have BK270 := n2_; have HB := n3_; clear n0_ n1_ n2_ n3_; have hfu269 := blk_frozen BK269.out; have hcu269 := blk_cell BK269.out; have hfu270 := blk_frozen BK270.out; have hcu270 := blk_cell BK270.out)); have hnb30 := NB270_269.out; have hnc30 := NB269_270.out; have hcz31_0 : wr.cell? ⟨gb270, 0, none⟩ = some (.int .i64 (wrap64 (bt a0 0))) := (blk_cell BK270.out 0).trans rfl; have hcz31_1 : wr.cell? ⟨gb270, 1, none⟩ = some (.int .i64 0) := (blk_cell BK270.out 1).trans rfl; have hcz31_2 : wr.cell? ⟨gb270, 2, none⟩ = some (.slice none 0 0) := (blk_cell BK270.out 2).trans rfl; have hcz31_3 : wr.cell? ⟨gb270, 3, none⟩ = some (.string (⟨#[]⟩ : ByteArray)) := (blk_cell BK270.out 3).trans rfl; have hcz31_4 : wr.cell? ⟨gb270, 4, none⟩ = some (u271004) := (blk_cell BK270.out 4).trans rfl; have hfz31_0 := blk_frozen BK270.out 0; have hfz31_1 := blk_frozen BK270.out 1; have hfz31_2 := blk_frozen BK270.out 2; have hfz31_3 := blk_frozen BK270.out 3; have hfz31_4 := blk_frozen BK270.out 4) | ((with_reducible refine gate_builtin (b := .append) (xs := #[.tmp 63, .tmp 65]) rfl ?_); (try (refine gate_guard (by rfl) ?_; dsimp only)); at_builtin; refine Kd.R_append Kd.string (w0 := w) w.heap.size rfl (.tmp 63) (.tmp 65) 22 9 (.string ⟨#[]⟩) 16 rfl Try.underlying22 info9 rfl (by decide) (by omega) u271004 x271004_2 t276 [.string t276] (fun _ => True) (fun _ => False) rfl rfl ?aP (fun _ hk => hk.elim) ?aF ?aO ?aB ?aS ?aL ?_; (case aP => exact rfl); (case aB => exact (by repeat (first | (with_reducible first | exact HB.out | apply below_alloc | apply pw_below_drewN | apply below_drew1 | refine below_set ?_ GE269.out | refine below_set ?_ GE270.out) | exact HB.out))); (case aF => exact (fun _ _ => trivial)); (case aO => exact (by (with_reducible repeat (first | apply Kd.R_alloc | apply Kd.R_drewN | apply Kd.R_drew)); exact HO_271004.out)); (case aS => exact (below_size (by repeat (first | (with_reducible first | exact HB.out | apply below_alloc | apply pw_below_drewN | apply below_drew1 | refine below_set ?_ GE269.out | refine below_set ?_ GE270.out) | exact HB.out)))); (case aL => have := LMc29.out; omega); intro v279 w32 ho hb hg hat; rw [← Ny278.out] at ho; have n0_ := Aside0.mk (blk_grown (g := gb269) (o := .cells #[.int .i64 0, .int .i64 0, .slice none 0 0, .string (⟨#[]⟩ : ByteArray), .slice none 0 0] 24 (0, 0)) (by (with_reducible repeat (first | refine blk_drewN ?_ _ | refine blk_drew ?_ | refine blk_alloc ?_ _)); exact BK269.out) hg (Kd.R_ne HO_271004.out BK269.out (by decide))); have n1_ := Aside0.mk (blk_grown (g := gb270) (o := .cells #[.int .i64 (wrap64 (bt a0 0)), .int .i64 0, .slice none 0 0, .string (⟨#[]⟩ : ByteArray), u271004] 24 (0, 0)) (by (with_reducible repeat (first | refine blk_drewN ?_ _ | refine blk_drew ?_ | refine blk_alloc ?_ _)); exact BK270.out) hg (Kd.R_ne HO_271004.out BK270.out (by decide))); have n2_ := Aside0.mk (hb); have n3_ := Aside0.mk (ho); clear BK269; clear BK270; clear HB; clear HO_271004; have BK269 := n0_; have BK270 := n1_; have HB := n2_; have HO280 := n3_; clear n0_ n1_ n2_ n3_; clear ho hb hg hat; obtain ⟨Ao33, co33, eo33⟩ := Kd.R_slice HO280.out; subst eo33; have hcz34_0 : w32.cell? ⟨gb270, 0, none⟩ = some (.int .i64 (wrap64 (bt a0 0))) := (blk_cell BK270.out 0).trans rfl; have hcz34_1 : w32.cell? ⟨gb270, 1, none⟩ = some (.int .i64 0) := (blk_cell BK270.out 1).trans rfl; have hcz34_2 : w32.cell? ⟨gb270, 2, none⟩ = some (.slice none 0 0) := (blk_cell BK270.out 2).trans rfl; have hcz34_3 : w32.cell? ⟨gb270, 3, none⟩ = some (.string (⟨#[]⟩ : ByteArray)) := (blk_cell BK270.out 3).trans rfl; have hcz34_4 : w32.cell? ⟨gb270, 4, none⟩ = some (u271004) := (blk_cell BK270.out 4).trans rfl; have hfz34_0 := blk_frozen BK270.out 0; have hfz34_1 := blk_frozen BK270.out 1; have hfz34_2 := blk_frozen BK270.out 2; have hfz34_3 := blk_frozen BK270.out 3; have hfz34_4 := blk_frozen BK270.out 4))
                            go_roundg k2
                            case measure => have := HJ1.out; have := HK2.out; omega
                            case rel => exact ⟨(t277), (wrap64 (x9_2 + 1)), (y278), (.slice Ao33 y278.length co33), (by first | rfl | (simp; done) | (simp [*]; done) | exact congrArg Value.bool (nonempty_l _) | (refine congrArg (Value.int _) ?_; first | omega | (unfold Go.RowKit.wrap64; omega))), (by first | rfl | (simp; done) | (simp [*]; done) | exact congrArg Value.bool (nonempty_l _) | (refine congrArg (Value.int _) ?_; first | omega | (unfold Go.RowKit.wrap64; omega))), H', ⟨by have := HJ1.out; have := HK2.out; omega⟩, ⟨by (with_reducible repeat (first | apply Kd.R_alloc | apply Kd.R_drewN | apply Kd.R_drew)); exact Kd.R_mono (Kd.R_far (p := ⟨gb270, 4, none⟩) (Kd.R_types HO280.out BK270.out (by decide)) (fun _ hk => hk.2) (.slice Ao33 y278.length co33)) (fun _ hk => trivial)⟩, ⟨by (with_reducible repeat (first | refine blk_drewN ?_ _ | refine blk_drew ?_ | refine blk_alloc ?_ _)); refine blk_far ?_ NB269_270.out _; (with_reducible repeat (first | refine blk_drewN ?_ _ | refine blk_drew ?_ | refine blk_alloc ?_ _)); exact BK269.out⟩, ⟨by (with_reducible repeat (first | refine blk_drewN ?_ _ | refine blk_drew ?_ | refine blk_alloc ?_ _)); refine blk_put (cs := #[.int .i64 (wrap64 (bt a0 0)), .int .i64 0, .slice none 0 0, .string (⟨#[]⟩ : ByteArray), u271004]) ?_ 4 _ rfl; (with_reducible repeat (first | refine blk_drewN ?_ _ | refine blk_drew ?_ | refine blk_alloc ?_ _)); exact BK270.out⟩, ⟨by repeat (first | (with_reducible first | exact HB.out | apply below_alloc | apply pw_below_drewN | apply below_drew1 | refine below_set ?_ GE269.out | refine below_set ?_ GE270.out) | exact HB.out)⟩⟩
                          · rw [if_neg c29] at H
                            exact absurd H (by simp)
                        · rw [if_neg c27] at H
                          have c27b0 : decide (0 ≤ x6_2) = false := decide_eq_false c27
                          clear c27
                          have H' := Aside0.mk H
                          clear H
                          go_wp2
                          go_meet
                          case rel => exact ⟨_, (0), (0), ((⟨#[]⟩ : ByteArray)), (0), (([] : List ByteArray)), ((⟨#[]⟩ : ByteArray)), (x271004_2), (.slice none 0 0), (u271004), H', ⟨by have := HJ1.out; have := HK2.out; first | omega | exact Nat.le_refl _⟩, ⟨by first | exact Kd.R_nil _ _ _ _ _ | exact Kd.N_nil _ _ _ _ _ | exact Kd.V_nil _ _ _ _ _ | exact Kd.Q_nil _ _ _ _ _ | exact Kd.S_nil _ _ _ _ _⟩, ⟨by (with_reducible repeat (first | apply Kd.R_alloc | apply Kd.R_drewN | apply Kd.R_drew)); exact Kd.R_mono HO_271004.out (fun _ hk => (by simp [Value.ownBlock]))⟩, ⟨by (with_reducible repeat (first | refine blk_drewN ?_ _ | refine blk_drew ?_ | refine blk_alloc ?_ _)); exact BK269.out⟩, ⟨by (with_reducible repeat (first | refine blk_drewN ?_ _ | refine blk_drew ?_ | refine blk_alloc ?_ _)); exact BK270.out⟩, ⟨by repeat (first | (with_reducible first | exact HB.out | apply below_alloc | apply pw_below_drewN | apply below_drew1 | refine below_set ?_ GE269.out | refine below_set ?_ GE270.out) | exact HB.out)⟩⟩
                      · rw [if_neg c26] at H
                        have c26b0 : decide (x9_2 < (wrap64 (bt a0 1))) = false := decide_eq_false c26
                        clear c26
                        have H' := Aside0.mk H
                        clear H
                        go_wp2
                        go_meet
                        case rel => exact ⟨_, (0), (0), ((⟨#[]⟩ : ByteArray)), (0), (([] : List ByteArray)), ((⟨#[]⟩ : ByteArray)), (x271004_2), (.slice none 0 0), (u271004), H', ⟨by have := HJ1.out; have := HK2.out; first | omega | exact Nat.le_refl _⟩, ⟨by first | exact Kd.R_nil _ _ _ _ _ | exact Kd.N_nil _ _ _ _ _ | exact Kd.V_nil _ _ _ _ _ | exact Kd.Q_nil _ _ _ _ _ | exact Kd.S_nil _ _ _ _ _⟩, ⟨by (with_reducible repeat (first | apply Kd.R_alloc | apply Kd.R_drewN | apply Kd.R_drew)); exact Kd.R_mono HO_271004.out (fun _ hk => (by simp [Value.ownBlock]))⟩, ⟨by (with_reducible repeat (first | refine blk_drewN ?_ _ | refine blk_drew ?_ | refine blk_alloc ?_ _)); exact BK269.out⟩, ⟨by (with_reducible repeat (first | refine blk_drewN ?_ _ | refine blk_drew ?_ | refine blk_alloc ?_ _)); exact BK270.out⟩, ⟨by repeat (first | (with_reducible first | exact HB.out | apply below_alloc | apply pw_below_drewN | apply below_drew1 | refine below_set ?_ GE269.out | refine below_set ?_ GE270.out) | exact HB.out)⟩⟩
                · rw [if_neg c23] at H
                  have c23b0 : ((wrap64 (bt a0 0)) == 4) = false := beq_eq_false_iff_ne.mpr c23
                  have c23b1 : ((wrap64 (bt a0 0)) != 4) = true := bne_iff_ne.mpr c23
                  by_cases c35 : (wrap64 (bt a0 0)) ≤ 3
                  · rw [if_pos c35] at H
                    have c35b0 : decide ((wrap64 (bt a0 0)) ≤ 3) = true := decide_eq_true c35
                    clear c35
                    have H' := Aside0.mk H
                    clear H
                    have hnb36 := NB270_269.out
                    have hnc36 := NB269_270.out
                    have hcz37_0 : w12.cell? ⟨gb270, 0, none⟩ = some (.int .i64 0) := (blk_cell BK270.out 0).trans rfl
                    have hcz37_1 : w12.cell? ⟨gb270, 1, none⟩ = some (.int .i64 0) := (blk_cell BK270.out 1).trans rfl
                    have hcz37_2 : w12.cell? ⟨gb270, 2, none⟩ = some (.slice none 0 0) := (blk_cell BK270.out 2).trans rfl
                    have hcz37_3 : w12.cell? ⟨gb270, 3, none⟩ = some (.string (⟨#[]⟩ : ByteArray)) := (blk_cell BK270.out 3).trans rfl
                    have hcz37_4 : w12.cell? ⟨gb270, 4, none⟩ = some (.slice none 0 0) := (blk_cell BK270.out 4).trans rfl
                    have hfz37_0 := blk_frozen BK270.out 0
                    have hfz37_1 := blk_frozen BK270.out 1
                    have hfz37_2 := blk_frozen BK270.out 2
                    have hfz37_3 := blk_frozen BK270.out 3
                    have hfz37_4 := blk_frozen BK270.out 4
                    go_wp2
                    go_loopg [6, 12] kj1 (fun kq v6 v12 w' => ∃ (x6_2 : Int) (x12_2 : Int) (x270000_2 : Int) (x270001_2 : Int) (x270003_2 : ByteArray) (x271002_2 : List ByteArray) (u271002 : Value), v6 = .int .i64 x6_2 ∧ v12 = .int .i64 x12_2 ∧ Aside0 (palaverref07_Decode.l1 kq a0 (wrap64 (bt a0 1)) x6_2 x12_2 (wrap64 (bt a0 0)) 0 x271002_2 (⟨#[]⟩ : ByteArray) = some (r1, r2, r3, r4, r5, r6)) ∧ Aside0 (kq ≤ kj1) ∧ Aside0 (Kd.R Kd.string 9 w' w.heap.size (fun _ => True) u271002 x271002_2) ∧ Aside0 (w'.heap[gb269]? = some (.cells #[.int .i64 x270000_2, .int .i64 x270001_2, (.slice none 0 0), .string x270003_2, (.slice none 0 0)] 24 (0, 0))) ∧ Aside0 (w'.heap[gb270]? = some (.cells #[.int .i64 (wrap64 (bt a0 0)), .int .i64 0, u271002, .string (⟨#[]⟩ : ByteArray), (.slice none 0 0)] 24 (0, 0))) ∧ Aside0 (Below w.heap.size w w'))
                    case atStart => exact ⟨(2), (0), (0), (0), ((⟨#[]⟩ : ByteArray)), (([] : List ByteArray)), (.slice none 0 0), (by first | rfl | (simp; done) | (simp [*]; done) | exact congrArg Value.bool (nonempty_l _) | (refine congrArg (Value.int _) ?_; first | omega | (unfold Go.RowKit.wrap64; omega))), (by first | rfl | (simp; done) | (simp [*]; done) | exact congrArg Value.bool (nonempty_l _) | (refine congrArg (Value.int _) ?_; first | omega | (unfold Go.RowKit.wrap64; omega))), H', ⟨Nat.le_refl _⟩, ⟨by first | exact Kd.R_nil _ _ _ _ _ | exact Kd.N_nil _ _ _ _ _ | exact Kd.V_nil _ _ _ _ _ | exact Kd.Q_nil _ _ _ _ _ | exact Kd.S_nil _ _ _ _ _⟩, ⟨by (with_reducible repeat (first | refine blk_drewN ?_ _ | refine blk_drew ?_ | refine blk_alloc ?_ _)); refine blk_far ?_ NB269_270.out _; (with_reducible repeat (first | refine blk_drewN ?_ _ | refine blk_drew ?_ | refine blk_alloc ?_ _)); refine blk_far ?_ NB269_270.out _; (with_reducible repeat (first | refine blk_drewN ?_ _ | refine blk_drew ?_ | refine blk_alloc ?_ _)); refine blk_far ?_ NB269_270.out _; (with_reducible repeat (first | refine blk_drewN ?_ _ | refine blk_drew ?_ | refine blk_alloc ?_ _)); refine blk_far ?_ NB269_270.out _; (with_reducible repeat (first | refine blk_drewN ?_ _ | refine blk_drew ?_ | refine blk_alloc ?_ _)); refine blk_far ?_ NB269_270.out _; (with_reducible repeat (first | refine blk_drewN ?_ _ | refine blk_drew ?_ | refine blk_alloc ?_ _)); exact BK269.out⟩, ⟨by (with_reducible repeat (first | refine blk_drewN ?_ _ | refine blk_drew ?_ | refine blk_alloc ?_ _)); refine blk_put (cs := #[.int .i64 (wrap64 (bt a0 0)), .int .i64 0, .slice none 0 0, .string (⟨#[]⟩ : ByteArray), .slice none 0 0]) ?_ 4 _ rfl; (with_reducible repeat (first | refine blk_drewN ?_ _ | refine blk_drew ?_ | refine blk_alloc ?_ _)); refine blk_put (cs := #[.int .i64 (wrap64 (bt a0 0)), .int .i64 0, .slice none 0 0, .string (⟨#[]⟩ : ByteArray), .slice none 0 0]) ?_ 3 _ rfl; (with_reducible repeat (first | refine blk_drewN ?_ _ | refine blk_drew ?_ | refine blk_alloc ?_ _)); refine blk_put (cs := #[.int .i64 (wrap64 (bt a0 0)), .int .i64 0, .slice none 0 0, .string (⟨#[]⟩ : ByteArray), .slice none 0 0]) ?_ 2 _ rfl; (with_reducible repeat (first | refine blk_drewN ?_ _ | refine blk_drew ?_ | refine blk_alloc ?_ _)); refine blk_put (cs := #[.int .i64 (wrap64 (bt a0 0)), .int .i64 0, .slice none 0 0, .string (⟨#[]⟩ : ByteArray), .slice none 0 0]) ?_ 1 _ rfl; (with_reducible repeat (first | refine blk_drewN ?_ _ | refine blk_drew ?_ | refine blk_alloc ?_ _)); refine blk_put (cs := #[.int .i64 0, .int .i64 0, .slice none 0 0, .string (⟨#[]⟩ : ByteArray), .slice none 0 0]) ?_ 0 _ rfl; (with_reducible repeat (first | refine blk_drewN ?_ _ | refine blk_drew ?_ | refine blk_alloc ?_ _)); exact BK270.out⟩, ⟨by repeat (first | (with_reducible first | exact HB.out | apply below_alloc | apply pw_below_drewN | apply below_drew1 | refine below_set ?_ GE269.out | refine below_set ?_ GE270.out) | exact HB.out)⟩⟩
                    case round =>
                      clear H'
                      try clear c1
                      try clear p1
                      try clear q1
                      try clear hx1
                      try clear qi1
                      try clear c2
                      try clear p2
                      try clear c3
                      try clear c4
                      try clear c4b0
                      try clear c4b1
                      try clear c5
                      try clear p6
                      try clear c7
                      try clear c7b0
                      try clear c7b1
                      try clear p8
                      try clear q8
                      try clear hx8
                      try clear qi8
                      try clear c9
                      try clear c9b0
                      try clear c9b1
                      try clear p10
                      try clear q10
                      try clear hx10
                      try clear qi10
                      try clear c13
                      try clear c15
                      try clear c15b0
                      try clear c15b1
                      try clear c17
                      try clear c23
                      try clear c23b0
                      try clear c23b1
                      try clear c24
                      try clear c26
                      try clear c26b0
                      try clear c27
                      try clear c27b0
                      try clear c29
                      try clear c30
                      try clear c35
                      try clear c35b0
                      try clear c36
                      try clear hcz14_0
                      try clear hcz14_1
                      try clear hcz14_2
                      try clear hcz14_3
                      try clear hcz14_4
                      try clear hcz18_0
                      try clear hcz18_1
                      try clear hcz18_2
                      try clear hcz18_3
                      try clear hcz18_4
                      try clear hcz22_0
                      try clear hcz22_1
                      try clear hcz22_2
                      try clear hcz22_3
                      try clear hcz22_4
                      try clear hcz25_0
                      try clear hcz25_1
                      try clear hcz25_2
                      try clear hcz25_3
                      try clear hcz25_4
                      try clear hcz31_0
                      try clear hcz31_1
                      try clear hcz31_2
                      try clear hcz31_3
                      try clear hcz31_4
                      try clear hcz34_0
                      try clear hcz34_1
                      try clear hcz34_2
                      try clear hcz34_3
                      try clear hcz34_4
                      try clear hcz37_0
                      try clear hcz37_1
                      try clear hcz37_2
                      try clear hcz37_3
                      try clear hcz37_4
                      try clear hcz6_0
                      try clear hcz6_1
                      try clear hcz6_2
                      try clear hcz6_3
                      try clear hcz6_4
                      try clear hfz14_0
                      try clear hfz14_1
                      try clear hfz14_2
                      try clear hfz14_3
                      try clear hfz14_4
                      try clear hfz18_0
                      try clear hfz18_1
                      try clear hfz18_2
                      try clear hfz18_3
                      try clear hfz18_4
                      try clear hfz22_0
                      try clear hfz22_1
                      try clear hfz22_2
                      try clear hfz22_3
                      try clear hfz22_4
                      try clear hfz25_0
                      try clear hfz25_1
                      try clear hfz25_2
                      try clear hfz25_3
                      try clear hfz25_4
                      try clear hfz31_0
                      try clear hfz31_1
                      try clear hfz31_2
                      try clear hfz31_3
                      try clear hfz31_4
                      try clear hfz34_0
                      try clear hfz34_1
                      try clear hfz34_2
                      try clear hfz34_3
                      try clear hfz34_4
                      try clear hfz37_0
                      try clear hfz37_1
                      try clear hfz37_2
                      try clear hfz37_3
                      try clear hfz37_4
                      try clear hfz6_0
                      try clear hfz6_1
                      try clear hfz6_2
                      try clear hfz6_3
                      try clear hfz6_4
                      try clear p1
                      try clear p10
                      try clear p2
                      try clear p6
                      try clear p8
                      try clear q1
                      try clear q10
                      try clear q8
                      obtain ⟨x6_2, x12_2, x270000_2, x270001_2, x270003_2, x271002_2, u271002, rfl, rfl, HA, HK2, HO_271002, BK269, BK270, HB⟩ := hrel
                      cases gk with
                      | zero => exact absurd HA.out (by simp [palaverref07_Decode.l1])
                      | succ k2 =>
                        have H := HA.out
                        clear HA
                        simp only [palaverref07_Decode.l1] at H
                        by_cases c38 : x12_2 < (wrap64 (bt a0 1))
                        · rw [if_pos c38] at H
                          have c38b0 : decide (x12_2 < (wrap64 (bt a0 1))) = true := decide_eq_true c38
                          clear c38
                          by_cases c39 : x6_2 > (wrap64 ((a0.size : Int) - 32))
                          · rw [if_pos c39] at H
                            have c39b0 : decide ((wrap64 ((a0.size : Int) - 32)) < x6_2) = true := decide_eq_true c39
                            clear c39
                            simp only [Option.some.injEq, Prod.mk.injEq] at H
                            obtain ⟨rfl, rfl, rfl, rfl, rfl, rfl⟩ := H
                            have hnb40 := NB269_270.out
                            have hnc40 := NB270_269.out
                            have hcz41_0 : wr.cell? ⟨gb269, 0, none⟩ = some (.int .i64 x270000_2) := (blk_cell BK269.out 0).trans rfl
                            have hcz41_1 : wr.cell? ⟨gb269, 1, none⟩ = some (.int .i64 x270001_2) := (blk_cell BK269.out 1).trans rfl
                            have hcz41_2 : wr.cell? ⟨gb269, 2, none⟩ = some (.slice none 0 0) := (blk_cell BK269.out 2).trans rfl
                            have hcz41_3 : wr.cell? ⟨gb269, 3, none⟩ = some (.string x270003_2) := (blk_cell BK269.out 3).trans rfl
                            have hcz41_4 : wr.cell? ⟨gb269, 4, none⟩ = some (.slice none 0 0) := (blk_cell BK269.out 4).trans rfl
                            have hfz41_0 := blk_frozen BK269.out 0
                            have hfz41_1 := blk_frozen BK269.out 1
                            have hfz41_2 := blk_frozen BK269.out 2
                            have hfz41_3 := blk_frozen BK269.out 3
                            have hfz41_4 := blk_frozen BK269.out 4
                            go_wp2
                            refine bodyPost_ret (results_ct rfl _ _ gb269 24 #[.int .i64 0, .int .i64 0, .slice none 0 0, .string (⟨#[]⟩ : ByteArray), .slice none 0 0] (0, 0) _ rfl (by (with_reducible repeat (first | refine blk_drewN ?_ _ | refine blk_drew ?_ | refine blk_alloc ?_ _)); refine blk_put (cs := #[.int .i64 0, .int .i64 0, .slice none 0 0, .string (⟨#[]⟩ : ByteArray), .slice none 0 0]) ?_ 4 _ rfl; (with_reducible repeat (first | refine blk_drewN ?_ _ | refine blk_drew ?_ | refine blk_alloc ?_ _)); refine blk_put (cs := #[.int .i64 0, .int .i64 0, .slice none 0 0, .string x270003_2, .slice none 0 0]) ?_ 3 _ rfl; (with_reducible repeat (first | refine blk_drewN ?_ _ | refine blk_drew ?_ | refine blk_alloc ?_ _)); refine blk_put (cs := #[.int .i64 0, .int .i64 0, .slice none 0 0, .string x270003_2, .slice none 0 0]) ?_ 2 _ rfl; (with_reducible repeat (first | refine blk_drewN ?_ _ | refine blk_drew ?_ | refine blk_alloc ?_ _)); refine blk_put (cs := #[.int .i64 0, .int .i64 x270001_2, .slice none 0 0, .string x270003_2, .slice none 0 0]) ?_ 1 _ rfl; (with_reducible repeat (first | refine blk_drewN ?_ _ | refine blk_drew ?_ | refine blk_alloc ?_ _)); refine blk_put (cs := #[.int .i64 x270000_2, .int .i64 x270001_2, .slice none 0 0, .string x270003_2, .slice none 0 0]) ?_ 0 _ rfl; (with_reducible repeat (first | refine blk_drewN ?_ _ | refine blk_drew ?_ | refine blk_alloc ?_ _)); exact BK269.out) Try.underlying24 rfl (by kernel_rfl)) rfl ?_
                            exact ⟨_, _, by first | rfl | (simp [errW_none, errW_some] <;> rfl) | (simp [*, errW_none, errW_some] <;> rfl), by first | exact Kd.R_nil _ _ _ _ _ | exact Kd.N_nil _ _ _ _ _ | exact Kd.V_nil _ _ _ _ _ | exact Kd.Q_nil _ _ _ _ _ | exact Kd.S_nil _ _ _ _ _, by first | exact Kd.R_nil _ _ _ _ _ | exact Kd.N_nil _ _ _ _ _ | exact Kd.V_nil _ _ _ _ _ | exact Kd.Q_nil _ _ _ _ _ | exact Kd.S_nil _ _ _ _ _, by repeat (first | (with_reducible first | exact HB.out | apply below_alloc | apply pw_below_drewN | apply below_drew1 | refine below_set ?_ GE269.out | refine below_set ?_ GE270.out) | exact HB.out)⟩
                          · rw [if_neg c39] at H
                            have c39b0 : decide ((wrap64 ((a0.size : Int) - 32)) < x6_2) = false := decide_eq_false c39
                            clear c39
                            by_cases c42 : 0 ≤ x6_2
                            · rw [if_pos c42] at H
                              have c42b0 := eq_true c42
                              have c42b1 : decide (0 ≤ x6_2) = true := decide_eq_true c42
                              clear c42
                              by_cases c43 : x6_2 ≤ (wrap64 (x6_2 + 32))
                              · rw [if_pos c43] at H
                                have c43b0 := eq_true c43
                                have c43b1 : decide (x6_2 ≤ (wrap64 (x6_2 + 32))) = true := decide_eq_true c43
                                by_cases c44 : (wrap64 (x6_2 + 32)) ≤ (a0.size : Int)
                                · rw [if_pos c44] at H
                                  have c44b0 := eq_true c44
                                  have c44b1 : decide ((wrap64 (x6_2 + 32)) ≤ (a0.size : Int)) = true := decide_eq_true c44
                                  by_cases c45 : x271002_2.length < 8796093022208
                                  · rw [if_pos c45] at H
                                    have LMc45 := Aside0.mk c45
                                    clear c45
                                    obtain ⟨y281, hy281⟩ : ∃ y_ : List ByteArray, y_ = (x271002_2 ++ [a0.extract (x6_2 : Int).toNat ((wrap64 (x6_2 + 32)) : Int).toNat]) := ⟨_, rfl⟩
                                    replace H : (palaverref07_Decode.l1 k2 a0 (wrap64 (bt a0 1)) (wrap64 (x6_2 + 32)) (wrap64 (x12_2 + 1)) (wrap64 (bt a0 0)) 0 y281 (⟨#[]⟩ : ByteArray)) = some (r1, r2, r3, r4, r5, r6) := by first | (rw [hy281]; with_reducible exact H) | (have H2_ := (Option.bind_some _ _).symm.trans H; rw [hy281]; with_reducible exact H2_) | (have H2_ := (Option.bind_some _ _).symm.trans H; with_reducible exact H2_) | with_reducible exact H | (rw [hy281]; exact H) | exact H
                                    have Ny281 := Aside0.mk hy281
                                    clear hy281
                                    have H' := Aside0.mk H
                                    clear H
                                    try go_wp2
                                    have n0_ := Aside0.mk (Kd.R_drew HO_271002.out)
                                    have n1_ := Aside0.mk (blk_drew BK269.out)
                                    have n2_ := Aside0.mk (blk_drew BK270.out)
                                    have n3_ := Aside0.mk (below_drew1 HB.out)
                                    clear HO_271002
                                    clear BK269
                                    clear BK270
                                    clear HB
                                    have HO_271002 := n0_
                                    have BK269 := n1_
                                    have BK270 := n2_
                                    have HB := n3_
                                    clear n0_ n1_ n2_ n3_
                                    refine start_ (n := 11) (S := fun w' => w'.cell? ⟨gb270, 0, none⟩ = some (.int .i64 (wrap64 (bt a0 0))) ∧ w'.cell? ⟨gb270, 1, none⟩ = some (.int .i64 0) ∧ w'.cell? ⟨gb270, 2, none⟩ = some (u271002) ∧ w'.cell? ⟨gb270, 3, none⟩ = some (.string (⟨#[]⟩ : ByteArray)) ∧ w'.cell? ⟨gb270, 4, none⟩ = some (.slice none 0 0)) (ds := [10]) #[false, false, false, false, false, false, false, false, false, false, false] (by kernel_rfl) rfl rfl ⟨(blk_cell BK270.out 0).trans rfl, (blk_cell BK270.out 1).trans rfl, (blk_cell BK270.out 2).trans rfl, (blk_cell BK270.out 3).trans rfl, (blk_cell BK270.out 4).trans rfl⟩ (fun hHeld => ?_); refine with_tabW palaverref07_Decode.tab23 palaverref07_Decode.bits23 (fun HT_ HW_ => ?_)
                                    generalize wr.drew = w46 at HO_271002 BK269 BK270 HB hHeld ⊢
                                    refine pure_ (i := 0) (N := some 84) (v := ?_) (a' := ?_) #[true, false, false, false, false, false, false, false, false, false, false] rfl rfl (any_of HT_.out (by kernel_rfl)) (fun _ _ _ h => h) (Or.inl ⟨by rfl, ?_⟩) ?_ ?_
                                    rotate_left
                                    · intro w'
                                      go_simp
                                      with_reducible rfl
                                    rotate_left
                                    · simp only [Act.put, List.setIfInBounds_toArray, List.set_cons_zero, List.set_cons_succ, i64_w, i32_w]
                                      rfl
                                    refine pure_ (i := 2) (N := some 86) (v := ?_) (a' := ?_) #[true, false, true, false, false, false, false, false, false, false, false] rfl rfl (any_of HT_.out (by kernel_rfl)) (fun _ _ _ h => h) (Or.inl ⟨by rfl, ?_⟩) ?_ ?_
                                    rotate_left
                                    · intro w'
                                      go_simp
                                      with_reducible rfl
                                    rotate_left
                                    · simp only [Act.put, List.setIfInBounds_toArray, List.set_cons_zero, List.set_cons_succ, i64_w, i32_w]
                                      rfl
                                    refine pure_ (i := 3) (N := some 87) (v := ?_) (a' := ?_) #[true, false, true, true, false, false, false, false, false, false, false] rfl rfl (any_of HT_.out (by kernel_rfl)) (fun _ _ _ h => h) (Or.inl ⟨by rfl, ?_⟩) ?_ ?_
                                    rotate_left
                                    · intro w'
                                      go_simp
                                      with_reducible rfl
                                    rotate_left
                                    · simp only [Act.put, List.setIfInBounds_toArray, List.set_cons_zero, List.set_cons_succ, i64_w, i32_w]
                                      rfl
                                    refine pure_ (i := 4) (N := some 88) (v := ?_) (a' := ?_) #[true, false, true, true, true, false, false, false, false, false, false] rfl rfl (any_of HT_.out (by kernel_rfl)) (fun _ _ _ h => h) (Or.inl ⟨by rfl, ?_⟩) ?_ ?_
                                    rotate_left
                                    · intro w'
                                      go_simp
                                      with_reducible rfl
                                    rotate_left
                                    · simp only [Act.put, List.setIfInBounds_toArray, List.set_cons_zero, List.set_cons_succ, i64_w, i32_w]
                                      rfl
                                    refine pure_ (i := 5) (N := some 89) (v := ?_) (a' := ?_) #[true, false, true, true, true, true, false, false, false, false, false] rfl rfl (any_of HT_.out (by kernel_rfl)) (fun _ _ _ h => h) (Or.inl ⟨by rfl, ?_⟩) ?_ ?_
                                    rotate_left
                                    · intro w'
                                      go_simp
                                      with_reducible rfl
                                    rotate_left
                                    · simp only [Act.put, List.setIfInBounds_toArray, List.set_cons_zero, List.set_cons_succ, i64_w, i32_w]
                                      rfl
                                    refine pure_ (i := 6) (N := some 90) (v := ?_) (a' := ?_) #[true, false, true, true, true, true, true, false, false, false, false] rfl rfl (any_of HT_.out (by kernel_rfl)) (fun _ _ _ h => h) (Or.inl ⟨by rfl, ?_⟩) ?_ ?_
                                    rotate_left
                                    · intro w'
                                      go_simp
                                      with_reducible rfl
                                    rotate_left
                                    · simp only [Act.put, List.setIfInBounds_toArray, List.set_cons_zero, List.set_cons_succ, i64_w, i32_w]
                                      rfl
                                    refine take_ (i := 1) (N := some 85) (v := ?_) (a' := ?_) #[true, true, true, true, true, true, true, false, false, false, false] rfl rfl (take_ofW HT_.out HW_.out (by kernel_rfl)) (fun _ _ _ h => h) (Or.inl ⟨by rfl, ?_⟩) hHeld ?_ ?_
                                    rotate_left
                                    · rintro w' ⟨s0, s1, s2, s3, s4⟩
                                      go_simp
                                      with_reducible rfl
                                    rotate_left
                                    · simp only [Act.put, List.setIfInBounds_toArray, List.set_cons_zero, List.set_cons_succ, i64_w, i32_w]
                                      rfl
                                    refine one_ (i := 7) (N := some 91) #[true, true, true, true, true, true, true, true, false, false, false] rfl rfl (one_of HT_.out (by kernel_rfl)) (by decide) (fun K hK => ?_)
                                    refine value_ (w1 := ?_) (v := ?_) (by rfl) rfl ?_ ?_
                                    rotate_left 2
                                    · go_simp
                                      constructor
                                      · rfl
                                      · rfl
                                    refine hK.out _ _ ⟨(blk_cell (blk_alloc BK270.out _) 0).trans rfl, (blk_cell (blk_alloc BK270.out _) 1).trans rfl, (blk_cell (blk_alloc BK270.out _) 2).trans rfl, (blk_cell (blk_alloc BK270.out _) 3).trans rfl, (blk_cell (blk_alloc BK270.out _) 4).trans rfl⟩ (fun hHeld => ?_)
                                    clear hK K
                                    refine norm_ (a' := ?_) ?_ ?_
                                    rotate_left
                                    · show Act.put _ (some 91) _ = _
                                      simp only [Act.put, List.setIfInBounds_toArray, List.set_cons_zero, List.set_cons_succ, i64_w, i32_w]
                                      rfl
                                    refine one_ (i := 8) (N := some 92) #[true, true, true, true, true, true, true, true, true, false, false] rfl rfl (one_of HT_.out (by kernel_rfl)) (by decide) (fun K hK => ?_)
                                    refine Kd.R_append_step Kd.string (w0 := w) w.heap.size (by rfl) (.tmp 85) (.tmp 91) 22 9 (.string ⟨#[]⟩) 16 rfl Try.underlying22 info9 rfl (by decide) (by omega) u271002 x271002_2 (a0.extract (x6_2 : Int).toNat ((wrap64 (x6_2 + 32)) : Int).toNat) [.string (a0.extract (x6_2 : Int).toNat ((wrap64 (x6_2 + 32)) : Int).toNat)] (fun _ => True) (fun _ => False) rfl rfl ?aP (fun _ hk => hk.elim) ?aF ?aO ?aB ?aS ?aL ?_
                                    (case aP => exact rfl)
                                    (case aB => exact (by repeat (first | (with_reducible first | exact HB.out | apply below_alloc | apply pw_below_drewN | apply below_drew1 | refine below_set ?_ GE269.out | refine below_set ?_ GE270.out) | exact HB.out)))
                                    (case aF => exact (fun _ _ => trivial))
                                    (case aO => exact (by (with_reducible repeat (first | apply Kd.R_alloc | apply Kd.R_drewN | apply Kd.R_drew)); exact HO_271002.out))
                                    (case aS => exact (below_size (by repeat (first | (with_reducible first | exact HB.out | apply below_alloc | apply pw_below_drewN | apply below_drew1 | refine below_set ?_ GE269.out | refine below_set ?_ GE270.out) | exact HB.out))))
                                    (case aL => have := LMc45.out; omega)
                                    intro v282 w47 ho hb hg hat
                                    rw [← Ny281.out] at ho
                                    have n0_ := Aside0.mk (blk_grown (g := gb269) (o := .cells #[.int .i64 x270000_2, .int .i64 x270001_2, .slice none 0 0, .string x270003_2, .slice none 0 0] 24 (0, 0)) (by (with_reducible repeat (first | refine blk_drewN ?_ _ | refine blk_drew ?_ | refine blk_alloc ?_ _)); exact BK269.out) hg (Kd.R_ne HO_271002.out BK269.out (by decide)))
                                    have n1_ := Aside0.mk (blk_grown (g := gb270) (o := .cells #[.int .i64 (wrap64 (bt a0 0)), .int .i64 0, u271002, .string (⟨#[]⟩ : ByteArray), .slice none 0 0] 24 (0, 0)) (by (with_reducible repeat (first | refine blk_drewN ?_ _ | refine blk_drew ?_ | refine blk_alloc ?_ _)); exact BK270.out) hg (Kd.R_ne HO_271002.out BK270.out (by decide)))
                                    have n2_ := Aside0.mk (hb)
                                    have n3_ := Aside0.mk (ho)
                                    clear BK269
                                    clear BK270
                                    clear HB
                                    clear HO_271002
                                    have BK269 := n0_
                                    have BK270 := n1_
                                    have HB := n2_
                                    have HO283 := n3_
                                    clear n0_ n1_ n2_ n3_
                                    clear ho hb hg hat
                                    obtain ⟨Ao48, co48, eo48⟩ := Kd.R_slice HO283.out
                                    (first | subst eo48 | (injection eo48 with f1_ f2_ f3_; have f4_ := f1_.symm; have f5_ := f3_.symm; clear f1_ f2_ f3_; subst f4_; subst f5_))
                                    refine hK.out _ _ ⟨(blk_cell BK270.out 0).trans rfl, (blk_cell BK270.out 1).trans rfl, (blk_cell BK270.out 2).trans rfl, (blk_cell BK270.out 3).trans rfl, (blk_cell BK270.out 4).trans rfl⟩ (fun hHeld => ?_)
                                    clear hK K
                                    refine norm_ (a' := ?_) ?_ ?_
                                    rotate_left
                                    · show Act.put _ (some 92) _ = _
                                      simp only [Act.put, List.setIfInBounds_toArray, List.set_cons_zero, List.set_cons_succ, i64_w, i32_w]
                                      rfl
                                    refine pure_ (i := 9) (N := some 93) (v := ?_) (a' := ?_) #[true, true, true, true, true, true, true, true, true, true, false] rfl rfl (any_of HT_.out (by kernel_rfl)) (fun _ _ _ h => h) (Or.inl ⟨by rfl, ?_⟩) ?_ ?_
                                    rotate_left
                                    · intro w'
                                      go_simp
                                      with_reducible rfl
                                    rotate_left
                                    · simp only [Act.put, List.setIfInBounds_toArray, List.set_cons_zero, List.set_cons_succ, i64_w, i32_w]
                                      rfl
                                    refine last_ (i := 10) (N := none) #[true, true, true, true, true, true, true, true, true, true, true] rfl rfl (one_of HT_.out (by kernel_rfl)) (by decide) (fun K hK => ?_)
                                    have hs49 : w47.cell? ⟨gb270, 2, none⟩ = some (u271002) := (blk_cell BK270.out 2).trans rfl
                                    have hfs49 := blk_frozen BK270.out 2
                                    have hns49_0 := NB269_270.out
                                    have hms49_0 := NB270_269.out
                                    refine skip_ (w1 := ?_) (by rfl) rfl ?_ ?_
                                    rotate_left
                                    · go_simp
                                      rfl
                                    refine hK.out _ _ ?_
                                    clear hK K
                                    refine done_ (done_of HT_.out (by kernel_rfl)) ?_
                                    try go_wp2
                                    go_roundg k2
                                    case measure => have := HJ1.out; have := HK2.out; omega
                                    case rel => exact ⟨(wrap64 (x6_2 + 32)), (wrap64 (x12_2 + 1)), (x270000_2), (x270001_2), (x270003_2), (y281), (.slice Ao48 y281.length co48), (by first | rfl | (simp; done) | (simp [*]; done) | exact congrArg Value.bool (nonempty_l _) | (refine congrArg (Value.int _) ?_; first | omega | (unfold Go.RowKit.wrap64; omega))), (by first | rfl | (simp; done) | (simp [*]; done) | exact congrArg Value.bool (nonempty_l _) | (refine congrArg (Value.int _) ?_; first | omega | (unfold Go.RowKit.wrap64; omega))), H', ⟨by have := HJ1.out; have := HK2.out; omega⟩, ⟨by (with_reducible repeat (first | apply Kd.R_alloc | apply Kd.R_drewN | apply Kd.R_drew)); exact Kd.R_mono (Kd.R_far (p := ⟨gb270, 2, none⟩) (Kd.R_types HO283.out BK270.out (by decide)) (fun _ hk => hk.2) (.slice Ao48 y281.length co48)) (fun _ hk => trivial)⟩, ⟨by (with_reducible repeat (first | refine blk_drewN ?_ _ | refine blk_drew ?_ | refine blk_alloc ?_ _)); refine blk_far ?_ NB269_270.out _; (with_reducible repeat (first | refine blk_drewN ?_ _ | refine blk_drew ?_ | refine blk_alloc ?_ _)); exact BK269.out⟩, ⟨by (with_reducible repeat (first | refine blk_drewN ?_ _ | refine blk_drew ?_ | refine blk_alloc ?_ _)); refine blk_put (cs := #[.int .i64 (wrap64 (bt a0 0)), .int .i64 0, u271002, .string (⟨#[]⟩ : ByteArray), .slice none 0 0]) ?_ 2 _ rfl; (with_reducible repeat (first | refine blk_drewN ?_ _ | refine blk_drew ?_ | refine blk_alloc ?_ _)); exact BK270.out⟩, ⟨by repeat (first | (with_reducible first | exact HB.out | apply below_alloc | apply pw_below_drewN | apply below_drew1 | refine below_set ?_ GE269.out | refine below_set ?_ GE270.out) | exact HB.out)⟩⟩
                                  · rw [if_neg c45] at H
                                    exact absurd H (by simp)
                                · rw [if_neg c44] at H
                                  exact absurd H (by simp)
                              · rw [if_neg c43] at H
                                exact absurd H (by simp)
                            · rw [if_neg c42] at H
                              exact absurd H (by simp)
                        · rw [if_neg c38] at H
                          have c38b0 : decide (x12_2 < (wrap64 (bt a0 1))) = false := decide_eq_false c38
                          clear c38
                          by_cases c50 : (wrap64 (bt a0 0)) = 2
                          · rw [if_pos c50] at H
                            have c50b0 : ((wrap64 (bt a0 0)) == 2) = true := beq_iff_eq.mpr c50
                            have c50b1 : ((wrap64 (bt a0 0)) != 2) = false := bne_eq_false_iff_eq.mpr c50
                            clear c50
                            replace H := Option.bind_eq_some_iff.mp H
                            obtain ⟨⟨t284, t285⟩, A510, H⟩ := H
                            replace H : (palaverref07_Decode.j3 k2 a0 (wrap64 (bt a0 0)) 0 x271002_2 t284 ([] : List ByteArray)) = some (r1, r2, r3, r4, r5, r6) := H
                            have A51 := Aside0.mk A510
                            clear A510
                            have H' := Aside0.mk H
                            clear H
                            have hnb52 := NB270_269.out
                            have hnc52 := NB269_270.out
                            have hcz53_0 : wr.cell? ⟨gb270, 0, none⟩ = some (.int .i64 (wrap64 (bt a0 0))) := (blk_cell BK270.out 0).trans rfl
                            have hcz53_1 : wr.cell? ⟨gb270, 1, none⟩ = some (.int .i64 0) := (blk_cell BK270.out 1).trans rfl
                            have hcz53_2 : wr.cell? ⟨gb270, 2, none⟩ = some (u271002) := (blk_cell BK270.out 2).trans rfl
                            have hcz53_3 : wr.cell? ⟨gb270, 3, none⟩ = some (.string (⟨#[]⟩ : ByteArray)) := (blk_cell BK270.out 3).trans rfl
                            have hcz53_4 : wr.cell? ⟨gb270, 4, none⟩ = some (.slice none 0 0) := (blk_cell BK270.out 4).trans rfl
                            have hfz53_0 := blk_frozen BK270.out 0
                            have hfz53_1 := blk_frozen BK270.out 1
                            have hfz53_2 := blk_frozen BK270.out 2
                            have hfz53_3 := blk_frozen BK270.out 3
                            have hfz53_4 := blk_frozen BK270.out 4
                            go_wp2_with (first | ((with_reducible refine gate_callee (f := 35) rfl ?_); refine goesL_ (some 102) rfl rfl Try.func35 (by kernel_rfl) rfl #[.string a0, .int .i64 x6_2] rfl (by (try simp only [List.map_toArray, List.map_cons, List.map_nil]); first | done | rfl | (simp only [List.length_drop, List.length_take]; rfl)) ?_; (with_reducible refine (palaverref07_text.calls k2 a0 x6_2 t284 t285 _ A51.out).mono ?_); rintro e w' ⟨rfl, ⟨nd, rfl⟩⟩; refine ⟨_, rfl, ?_⟩; (try (rw [drewN_self wr]; generalize hq_ : World.drewN wr _ = wr; have n0_ : Aside0 (Kd.R Kd.string 9 wr w.heap.size (fun _ => True) u271002 x271002_2) := ⟨by rw [← hq_]; exact (by (with_reducible repeat (first | apply Kd.R_alloc | apply Kd.R_drewN | apply Kd.R_drew)); exact HO_271002.out)⟩; have n1_ : Aside0 (wr.heap[gb269]? = some (.cells #[.int .i64 x270000_2, .int .i64 x270001_2, .slice none 0 0, .string x270003_2, .slice none 0 0] 24 (0, 0))) := ⟨by rw [← hq_]; exact (by (with_reducible repeat (first | refine blk_drewN ?_ _ | refine blk_drew ?_ | refine blk_alloc ?_ _)); exact BK269.out)⟩; have n2_ : Aside0 (wr.heap[gb270]? = some (.cells #[.int .i64 (wrap64 (bt a0 0)), .int .i64 0, u271002, .string (⟨#[]⟩ : ByteArray), .slice none 0 0] 24 (0, 0))) := ⟨by rw [← hq_]; exact (by (with_reducible repeat (first | refine blk_drewN ?_ _ | refine blk_drew ?_ | refine blk_alloc ?_ _)); exact BK270.out)⟩; have n3_ : Aside0 (Below w.heap.size w wr) := ⟨by rw [← hq_]; exact (by repeat (first | (with_reducible first | exact HB.out | apply below_alloc | apply pw_below_drewN | apply below_drew1 | refine below_set ?_ GE269.out | refine below_set ?_ GE270.out) | exact HB.out))⟩; clear HO_271002 BK269 BK270 HB hq_; have HO_271002 := n0_; have BK269 := n1_; have BK270 := n2_; have HB := n3_; clear n0_ n1_ n2_ n3_; have hfu269 := blk_frozen BK269.out; have hcu269 := blk_cell BK269.out; have hfu270 := blk_frozen BK270.out; have hcu270 := blk_cell BK270.out))))
                            go_meet
                            case rel => exact ⟨_, (x270000_2), (x270001_2), (x270003_2), (0), (x271002_2), (t284), (([] : List ByteArray)), (u271002), (.slice none 0 0), H', ⟨by have := HJ1.out; have := HK2.out; first | omega | exact Nat.le_refl _⟩, ⟨by (with_reducible repeat (first | apply Kd.R_alloc | apply Kd.R_drewN | apply Kd.R_drew)); exact Kd.R_mono (Kd.R_far (p := ⟨gb270, 3, none⟩) (Kd.R_types HO_271002.out BK270.out (by decide)) (fun _ hk => hk.2) (.string t284)) (fun _ hk => (by simp [Value.ownBlock]))⟩, ⟨by first | exact Kd.R_nil _ _ _ _ _ | exact Kd.N_nil _ _ _ _ _ | exact Kd.V_nil _ _ _ _ _ | exact Kd.Q_nil _ _ _ _ _ | exact Kd.S_nil _ _ _ _ _⟩, ⟨by (with_reducible repeat (first | refine blk_drewN ?_ _ | refine blk_drew ?_ | refine blk_alloc ?_ _)); refine blk_far ?_ NB269_270.out _; (with_reducible repeat (first | refine blk_drewN ?_ _ | refine blk_drew ?_ | refine blk_alloc ?_ _)); exact BK269.out⟩, ⟨by (with_reducible repeat (first | refine blk_drewN ?_ _ | refine blk_drew ?_ | refine blk_alloc ?_ _)); refine blk_put (cs := #[.int .i64 (wrap64 (bt a0 0)), .int .i64 0, u271002, .string (⟨#[]⟩ : ByteArray), .slice none 0 0]) ?_ 3 _ rfl; (with_reducible repeat (first | refine blk_drewN ?_ _ | refine blk_drew ?_ | refine blk_alloc ?_ _)); exact BK270.out⟩, ⟨by repeat (first | (with_reducible first | exact HB.out | apply below_alloc | apply pw_below_drewN | apply below_drew1 | refine below_set ?_ GE269.out | refine below_set ?_ GE270.out) | exact HB.out)⟩⟩
                          · rw [if_neg c50] at H
                            have c50b0 : ((wrap64 (bt a0 0)) == 2) = false := beq_eq_false_iff_ne.mpr c50
                            have c50b1 : ((wrap64 (bt a0 0)) != 2) = true := bne_iff_ne.mpr c50
                            have H' := Aside0.mk H
                            clear H
                            have hnb54 := NB270_269.out
                            have hnc54 := NB269_270.out
                            have hcz55_0 : wr.cell? ⟨gb270, 0, none⟩ = some (.int .i64 (wrap64 (bt a0 0))) := (blk_cell BK270.out 0).trans rfl
                            have hcz55_1 : wr.cell? ⟨gb270, 1, none⟩ = some (.int .i64 0) := (blk_cell BK270.out 1).trans rfl
                            have hcz55_2 : wr.cell? ⟨gb270, 2, none⟩ = some (u271002) := (blk_cell BK270.out 2).trans rfl
                            have hcz55_3 : wr.cell? ⟨gb270, 3, none⟩ = some (.string (⟨#[]⟩ : ByteArray)) := (blk_cell BK270.out 3).trans rfl
                            have hcz55_4 : wr.cell? ⟨gb270, 4, none⟩ = some (.slice none 0 0) := (blk_cell BK270.out 4).trans rfl
                            have hfz55_0 := blk_frozen BK270.out 0
                            have hfz55_1 := blk_frozen BK270.out 1
                            have hfz55_2 := blk_frozen BK270.out 2
                            have hfz55_3 := blk_frozen BK270.out 3
                            have hfz55_4 := blk_frozen BK270.out 4
                            go_wp2
                            go_meet
                            case rel => exact ⟨_, (x270000_2), (x270001_2), (x270003_2), (0), (x271002_2), ((⟨#[]⟩ : ByteArray)), (([] : List ByteArray)), (u271002), (.slice none 0 0), H', ⟨by have := HJ1.out; have := HK2.out; first | omega | exact Nat.le_refl _⟩, ⟨by (with_reducible repeat (first | apply Kd.R_alloc | apply Kd.R_drewN | apply Kd.R_drew)); exact Kd.R_mono HO_271002.out (fun _ hk => (by simp [Value.ownBlock]))⟩, ⟨by first | exact Kd.R_nil _ _ _ _ _ | exact Kd.N_nil _ _ _ _ _ | exact Kd.V_nil _ _ _ _ _ | exact Kd.Q_nil _ _ _ _ _ | exact Kd.S_nil _ _ _ _ _⟩, ⟨by (with_reducible repeat (first | refine blk_drewN ?_ _ | refine blk_drew ?_ | refine blk_alloc ?_ _)); exact BK269.out⟩, ⟨by (with_reducible repeat (first | refine blk_drewN ?_ _ | refine blk_drew ?_ | refine blk_alloc ?_ _)); exact BK270.out⟩, ⟨by repeat (first | (with_reducible first | exact HB.out | apply below_alloc | apply pw_below_drewN | apply below_drew1 | refine below_set ?_ GE269.out | refine below_set ?_ GE270.out) | exact HB.out)⟩⟩
                  · rw [if_neg c35] at H
                    have c35b0 : decide ((wrap64 (bt a0 0)) ≤ 3) = false := decide_eq_false c35
                    clear c35
                    have H' := Aside0.mk H
                    clear H
                    have hnb56 := NB270_269.out
                    have hnc56 := NB269_270.out
                    have hcz57_0 : w12.cell? ⟨gb270, 0, none⟩ = some (.int .i64 0) := (blk_cell BK270.out 0).trans rfl
                    have hcz57_1 : w12.cell? ⟨gb270, 1, none⟩ = some (.int .i64 0) := (blk_cell BK270.out 1).trans rfl
                    have hcz57_2 : w12.cell? ⟨gb270, 2, none⟩ = some (.slice none 0 0) := (blk_cell BK270.out 2).trans rfl
                    have hcz57_3 : w12.cell? ⟨gb270, 3, none⟩ = some (.string (⟨#[]⟩ : ByteArray)) := (blk_cell BK270.out 3).trans rfl
                    have hcz57_4 : w12.cell? ⟨gb270, 4, none⟩ = some (.slice none 0 0) := (blk_cell BK270.out 4).trans rfl
                    have hfz57_0 := blk_frozen BK270.out 0
                    have hfz57_1 := blk_frozen BK270.out 1
                    have hfz57_2 := blk_frozen BK270.out 2
                    have hfz57_3 := blk_frozen BK270.out 3
                    have hfz57_4 := blk_frozen BK270.out 4
                    go_wp2
                    go_meet
                    case rel => exact ⟨_, (0), (0), ((⟨#[]⟩ : ByteArray)), (0), (([] : List ByteArray)), ((⟨#[]⟩ : ByteArray)), (([] : List ByteArray)), (.slice none 0 0), (.slice none 0 0), H', ⟨by have := HJ1.out; first | omega | exact Nat.le_refl _⟩, ⟨by first | exact Kd.R_nil _ _ _ _ _ | exact Kd.N_nil _ _ _ _ _ | exact Kd.V_nil _ _ _ _ _ | exact Kd.Q_nil _ _ _ _ _ | exact Kd.S_nil _ _ _ _ _⟩, ⟨by first | exact Kd.R_nil _ _ _ _ _ | exact Kd.N_nil _ _ _ _ _ | exact Kd.V_nil _ _ _ _ _ | exact Kd.Q_nil _ _ _ _ _ | exact Kd.S_nil _ _ _ _ _⟩, ⟨by (with_reducible repeat (first | refine blk_drewN ?_ _ | refine blk_drew ?_ | refine blk_alloc ?_ _)); refine blk_far ?_ NB269_270.out _; (with_reducible repeat (first | refine blk_drewN ?_ _ | refine blk_drew ?_ | refine blk_alloc ?_ _)); refine blk_far ?_ NB269_270.out _; (with_reducible repeat (first | refine blk_drewN ?_ _ | refine blk_drew ?_ | refine blk_alloc ?_ _)); refine blk_far ?_ NB269_270.out _; (with_reducible repeat (first | refine blk_drewN ?_ _ | refine blk_drew ?_ | refine blk_alloc ?_ _)); refine blk_far ?_ NB269_270.out _; (with_reducible repeat (first | refine blk_drewN ?_ _ | refine blk_drew ?_ | refine blk_alloc ?_ _)); refine blk_far ?_ NB269_270.out _; (with_reducible repeat (first | refine blk_drewN ?_ _ | refine blk_drew ?_ | refine blk_alloc ?_ _)); exact BK269.out⟩, ⟨by (with_reducible repeat (first | refine blk_drewN ?_ _ | refine blk_drew ?_ | refine blk_alloc ?_ _)); refine blk_put (cs := #[.int .i64 (wrap64 (bt a0 0)), .int .i64 0, .slice none 0 0, .string (⟨#[]⟩ : ByteArray), .slice none 0 0]) ?_ 4 _ rfl; (with_reducible repeat (first | refine blk_drewN ?_ _ | refine blk_drew ?_ | refine blk_alloc ?_ _)); refine blk_put (cs := #[.int .i64 (wrap64 (bt a0 0)), .int .i64 0, .slice none 0 0, .string (⟨#[]⟩ : ByteArray), .slice none 0 0]) ?_ 3 _ rfl; (with_reducible repeat (first | refine blk_drewN ?_ _ | refine blk_drew ?_ | refine blk_alloc ?_ _)); refine blk_put (cs := #[.int .i64 (wrap64 (bt a0 0)), .int .i64 0, .slice none 0 0, .string (⟨#[]⟩ : ByteArray), .slice none 0 0]) ?_ 2 _ rfl; (with_reducible repeat (first | refine blk_drewN ?_ _ | refine blk_drew ?_ | refine blk_alloc ?_ _)); refine blk_put (cs := #[.int .i64 (wrap64 (bt a0 0)), .int .i64 0, .slice none 0 0, .string (⟨#[]⟩ : ByteArray), .slice none 0 0]) ?_ 1 _ rfl; (with_reducible repeat (first | refine blk_drewN ?_ _ | refine blk_drew ?_ | refine blk_alloc ?_ _)); refine blk_put (cs := #[.int .i64 0, .int .i64 0, .slice none 0 0, .string (⟨#[]⟩ : ByteArray), .slice none 0 0]) ?_ 0 _ rfl; (with_reducible repeat (first | refine blk_drewN ?_ _ | refine blk_drew ?_ | refine blk_alloc ?_ _)); exact BK270.out⟩, ⟨by repeat (first | (with_reducible first | exact HB.out | apply below_alloc | apply pw_below_drewN | apply below_drew1 | refine below_set ?_ GE269.out | refine below_set ?_ GE270.out) | exact HB.out)⟩⟩
            case rest =>
              clear HC11
              try clear c1
              try clear p1
              try clear q1
              try clear hx1
              try clear qi1
              try clear c2
              try clear p2
              try clear c3
              try clear c4
              try clear c4b0
              try clear c4b1
              try clear c5
              try clear p6
              try clear c7
              try clear c7b0
              try clear c7b1
              try clear p8
              try clear q8
              try clear hx8
              try clear qi8
              try clear c9
              try clear c9b0
              try clear c9b1
              try clear p10
              try clear q10
              try clear hx10
              try clear qi10
              try clear c13
              try clear c15
              try clear c15b0
              try clear c15b1
              try clear c17
              try clear c23
              try clear c23b0
              try clear c23b1
              try clear c24
              try clear c26
              try clear c26b0
              try clear c27
              try clear c27b0
              try clear c29
              try clear c30
              try clear c35
              try clear c35b0
              try clear c36
              try clear c38
              try clear c38b0
              try clear c39
              try clear c39b0
              try clear c40
              try clear c42
              try clear c42b0
              try clear c42b1
              try clear c43
              try clear c43b0
              try clear c43b1
              try clear c44
              try clear c44b0
              try clear c44b1
              try clear c45
              try clear c50
              try clear c50b0
              try clear c50b1
              try clear c52
              try clear c54
              try clear c56
              try clear hcz14_0
              try clear hcz14_1
              try clear hcz14_2
              try clear hcz14_3
              try clear hcz14_4
              try clear hcz18_0
              try clear hcz18_1
              try clear hcz18_2
              try clear hcz18_3
              try clear hcz18_4
              try clear hcz22_0
              try clear hcz22_1
              try clear hcz22_2
              try clear hcz22_3
              try clear hcz22_4
              try clear hcz25_0
              try clear hcz25_1
              try clear hcz25_2
              try clear hcz25_3
              try clear hcz25_4
              try clear hcz31_0
              try clear hcz31_1
              try clear hcz31_2
              try clear hcz31_3
              try clear hcz31_4
              try clear hcz34_0
              try clear hcz34_1
              try clear hcz34_2
              try clear hcz34_3
              try clear hcz34_4
              try clear hcz37_0
              try clear hcz37_1
              try clear hcz37_2
              try clear hcz37_3
              try clear hcz37_4
              try clear hcz41_0
              try clear hcz41_1
              try clear hcz41_2
              try clear hcz41_3
              try clear hcz41_4
              try clear hcz53_0
              try clear hcz53_1
              try clear hcz53_2
              try clear hcz53_3
              try clear hcz53_4
              try clear hcz55_0
              try clear hcz55_1
              try clear hcz55_2
              try clear hcz55_3
              try clear hcz55_4
              try clear hcz57_0
              try clear hcz57_1
              try clear hcz57_2
              try clear hcz57_3
              try clear hcz57_4
              try clear hcz6_0
              try clear hcz6_1
              try clear hcz6_2
              try clear hcz6_3
              try clear hcz6_4
              try clear hfz14_0
              try clear hfz14_1
              try clear hfz14_2
              try clear hfz14_3
              try clear hfz14_4
              try clear hfz18_0
              try clear hfz18_1
              try clear hfz18_2
              try clear hfz18_3
              try clear hfz18_4
              try clear hfz22_0
              try clear hfz22_1
              try clear hfz22_2
              try clear hfz22_3
              try clear hfz22_4
              try clear hfz25_0
              try clear hfz25_1
              try clear hfz25_2
              try clear hfz25_3
              try clear hfz25_4
              try clear hfz31_0
              try clear hfz31_1
              try clear hfz31_2
              try clear hfz31_3
              try clear hfz31_4
              try clear hfz34_0
              try clear hfz34_1
              try clear hfz34_2
              try clear hfz34_3
              try clear hfz34_4
              try clear hfz37_0
              try clear hfz37_1
              try clear hfz37_2
              try clear hfz37_3
              try clear hfz37_4
              try clear hfz41_0
              try clear hfz41_1
              try clear hfz41_2
              try clear hfz41_3
              try clear hfz41_4
              try clear hfz53_0
              try clear hfz53_1
              try clear hfz53_2
              try clear hfz53_3
              try clear hfz53_4
              try clear hfz55_0
              try clear hfz55_1
              try clear hfz55_2
              try clear hfz55_3
              try clear hfz55_4
              try clear hfz57_0
              try clear hfz57_1
              try clear hfz57_2
              try clear hfz57_3
              try clear hfz57_4
              try clear hfz6_0
              try clear hfz6_1
              try clear hfz6_2
              try clear hfz6_3
              try clear hfz6_4
              try clear p1
              try clear p10
              try clear p2
              try clear p6
              try clear p8
              try clear q1
              try clear q10
              try clear q8
              obtain ⟨kq, x270000_10, x270001_10, x270003_10, x271001_10, x271002_10, x271003_10, x271004_10, u271002, u271004, HA, HJ10, HO_271002, HO_271004, BK269, BK270, HB⟩ := hcut
              cases kq with
              | zero => exact absurd HA.out (by simp [palaverref07_Decode.j3])
              | succ kj10 =>
                have H := HA.out
                clear HA
                simp only [palaverref07_Decode.j3] at H
                replace H := Option.bind_eq_some_iff.mp H
                obtain ⟨t286, A580, H⟩ := H
                replace H : (if t286 = true then ((palaverref07_Encode.f kj10 (wrap64 (bt a0 0)) x271001_10 x271002_10 x271003_10 x271004_10).bind fun t287 => (if t287.toList = a0.toList then (some ((wrap64 (bt a0 0)), x271001_10, x271002_10, x271003_10, x271004_10, true)) else (some (0, 0, ([] : List ByteArray), (⟨#[]⟩ : ByteArray), ([] : List ByteArray), false)))) else (some (0, 0, ([] : List ByteArray), (⟨#[]⟩ : ByteArray), ([] : List ByteArray), false))) = some (r1, r2, r3, r4, r5, r6) := H
                have A58 := Aside0.mk A580
                clear A580
                by_cases c59 : t286 = true
                · subst c59
                  have H1 : ((palaverref07_Encode.f kj10 (wrap64 (bt a0 0)) x271001_10 x271002_10 x271003_10 x271004_10).bind fun t287 => (if t287.toList = a0.toList then (some ((wrap64 (bt a0 0)), x271001_10, x271002_10, x271003_10, x271004_10, true)) else (some (0, 0, ([] : List ByteArray), (⟨#[]⟩ : ByteArray), ([] : List ByteArray), false)))) = some (r1, r2, r3, r4, r5, r6) := by rw [if_pos rfl] at H; exact H
                  clear H
                  have H := H1
                  clear H1
                  replace H := Option.bind_eq_some_iff.mp H
                  obtain ⟨t287, A600, H⟩ := H
                  replace H : (if t287.toList = a0.toList then (some ((wrap64 (bt a0 0)), x271001_10, x271002_10, x271003_10, x271004_10, true)) else (some (0, 0, ([] : List ByteArray), (⟨#[]⟩ : ByteArray), ([] : List ByteArray), false))) = some (r1, r2, r3, r4, r5, r6) := H
                  have A60 := Aside0.mk A600
                  clear A600
                  by_cases c61 : t287.toList = a0.toList
                  · rw [if_pos c61] at H
                    have c61b0 : (t287.toList == a0.toList) = true := beq_iff_eq.mpr c61
                    have c61b1 : (t287.toList != a0.toList) = false := bne_eq_false_iff_eq.mpr c61
                    clear c61
                    simp only [Option.some.injEq, Prod.mk.injEq] at H
                    obtain ⟨rfl, rfl, rfl, rfl, rfl, rfl⟩ := H
                    have hnb62 := NB270_269.out
                    have hnc62 := NB269_270.out
                    have hcz63_0 : wc.cell? ⟨gb270, 0, none⟩ = some (.int .i64 (wrap64 (bt a0 0))) := (blk_cell BK270.out 0).trans rfl
                    have hcz63_1 : wc.cell? ⟨gb270, 1, none⟩ = some (.int .i64 x271001_10) := (blk_cell BK270.out 1).trans rfl
                    have hcz63_2 : wc.cell? ⟨gb270, 2, none⟩ = some (u271002) := (blk_cell BK270.out 2).trans rfl
                    have hcz63_3 : wc.cell? ⟨gb270, 3, none⟩ = some (.string x271003_10) := (blk_cell BK270.out 3).trans rfl
                    have hcz63_4 : wc.cell? ⟨gb270, 4, none⟩ = some (u271004) := (blk_cell BK270.out 4).trans rfl
                    have hfz63_0 := blk_frozen BK270.out 0
                    have hfz63_1 := blk_frozen BK270.out 1
                    have hfz63_2 := blk_frozen BK270.out 2
                    have hfz63_3 := blk_frozen BK270.out 3
                    have hfz63_4 := blk_frozen BK270.out 4
                    obtain ⟨Ao64, co64, eo64⟩ := Kd.R_slice HO_271002.out
                    subst eo64
                    obtain ⟨Ao65, co65, eo65⟩ := Kd.R_slice HO_271004.out
                    subst eo65
                    go_wp2_with (first | ((with_reducible refine gate_callee (f := 12) rfl ?_); refine goesL_ (some 107) rfl rfl Try.func12 (by kernel_rfl) rfl #[.agg #[.int .i64 (wrap64 (bt a0 0)), .int .i64 x271001_10, .slice Ao64 x271002_10.length co64, .string x271003_10, .slice Ao65 x271004_10.length co65]] rfl (by (try simp only [List.map_toArray, List.map_cons, List.map_nil]); first | done | rfl | (simp only [List.length_drop, List.length_take]; rfl)) ?_; (with_reducible refine (palaverref07_Right.calls kj10 (wrap64 (bt a0 0)) x271001_10 _ _ x271002_10 x271003_10 _ _ x271004_10 true _ ?side1 ?side2 ?side3 ?side4 A58.out).mono ?_); (case side1 => repeat (first | exact (Kd.R_reads' HO_271002.out).2.2 | (with_reducible refine Kd.C_alloc ?_ _) | (with_reducible refine Kd.C_drewN ?_ _) | (with_reducible refine Kd.C_drew ?_))); (case side2 => exact (Kd.R_reads' HO_271002.out).2.1); (case side3 => repeat (first | exact (Kd.R_reads' HO_271004.out).2.2 | (with_reducible refine Kd.C_alloc ?_ _) | (with_reducible refine Kd.C_drewN ?_ _) | (with_reducible refine Kd.C_drew ?_))); (case side4 => exact (Kd.R_reads' HO_271004.out).2.1); rintro e w66 ⟨rfl, hb⟩; refine ⟨_, rfl, ?_⟩; have n0_ := Aside0.mk (Kd.R_below (by (with_reducible repeat (first | apply Kd.R_alloc | apply Kd.R_drewN | apply Kd.R_drew)); exact HO_271002.out) hb); have n1_ := Aside0.mk (Kd.R_below (by (with_reducible repeat (first | apply Kd.R_alloc | apply Kd.R_drewN | apply Kd.R_drew)); exact HO_271004.out) hb); have n2_ := Aside0.mk (blk_below (g := gb269) (o := .cells #[.int .i64 x270000_10, .int .i64 x270001_10, .slice none 0 0, .string x270003_10, .slice none 0 0] 24 (0, 0)) (by (with_reducible repeat (first | refine blk_drewN ?_ _ | refine blk_drew ?_ | refine blk_alloc ?_ _)); exact BK269.out) hb); have n3_ := Aside0.mk (blk_below (g := gb270) (o := .cells #[.int .i64 (wrap64 (bt a0 0)), .int .i64 x271001_10, .slice Ao64 x271002_10.length co64, .string x271003_10, .slice Ao65 x271004_10.length co65] 24 (0, 0)) (by (with_reducible repeat (first | refine blk_drewN ?_ _ | refine blk_drew ?_ | refine blk_alloc ?_ _)); exact BK270.out) hb); have n4_ := Aside0.mk (below_step (by repeat (first | (with_reducible first | exact HB.out | apply below_alloc | apply pw_below_drewN | apply below_drew1 | refine below_set ?_ GE269.out | refine below_set ?_ GE270.out) | exact HB.out)) hb); clear HO_271002; clear HO_271004; clear BK269; clear BK270; clear HB; have HO_271002 := n0_; have HO_271004 := n1_; have BK269 := n2_; have BK270 := n3_; have HB := n4_; clear n0_ n1_ n2_ n3_ n4_; (try clear hb); (try clear hb2); (try clear hk); (try clear hi); have hcz67_0 : w66.cell? ⟨gb270, 0, none⟩ = some (.int .i64 (wrap64 (bt a0 0))) := (blk_cell BK270.out 0).trans rfl; have hcz67_1 : w66.cell? ⟨gb270, 1, none⟩ = some (.int .i64 x271001_10) := (blk_cell BK270.out 1).trans rfl; have hcz67_2 : w66.cell? ⟨gb270, 2, none⟩ = some (.slice Ao64 x271002_10.length co64) := (blk_cell BK270.out 2).trans rfl; have hcz67_3 : w66.cell? ⟨gb270, 3, none⟩ = some (.string x271003_10) := (blk_cell BK270.out 3).trans rfl; have hcz67_4 : w66.cell? ⟨gb270, 4, none⟩ = some (.slice Ao65 x271004_10.length co65) := (blk_cell BK270.out 4).trans rfl; have hfz67_0 := blk_frozen BK270.out 0; have hfz67_1 := blk_frozen BK270.out 1; have hfz67_2 := blk_frozen BK270.out 2; have hfz67_3 := blk_frozen BK270.out 3; have hfz67_4 := blk_frozen BK270.out 4) | (go_at_call 14; (with_reducible refine (palaverref07_Encode.calls kj10 (wrap64 (bt a0 0)) x271001_10 _ _ x271002_10 x271003_10 _ _ x271004_10 t287 _ ?side1 ?side2 ?side3 ?side4 A60.out).mono ?_); (case side1 => repeat (first | exact (Kd.R_reads' HO_271002.out).2.2 | (with_reducible refine Kd.C_alloc ?_ _) | (with_reducible refine Kd.C_drewN ?_ _) | (with_reducible refine Kd.C_drew ?_))); (case side2 => exact (Kd.R_reads' HO_271002.out).2.1); (case side3 => repeat (first | exact (Kd.R_reads' HO_271004.out).2.2 | (with_reducible refine Kd.C_alloc ?_ _) | (with_reducible refine Kd.C_drewN ?_ _) | (with_reducible refine Kd.C_drew ?_))); (case side4 => exact (Kd.R_reads' HO_271004.out).2.1); rintro e w68 ⟨rfl, hb⟩; have n0_ := Aside0.mk (Kd.R_below (by (with_reducible repeat (first | apply Kd.R_alloc | apply Kd.R_drewN | apply Kd.R_drew)); exact HO_271002.out) hb); have n1_ := Aside0.mk (Kd.R_below (by (with_reducible repeat (first | apply Kd.R_alloc | apply Kd.R_drewN | apply Kd.R_drew)); exact HO_271004.out) hb); have n2_ := Aside0.mk (blk_below (g := gb269) (o := .cells #[.int .i64 x270000_10, .int .i64 x270001_10, .slice none 0 0, .string x270003_10, .slice none 0 0] 24 (0, 0)) (by (with_reducible repeat (first | refine blk_drewN ?_ _ | refine blk_drew ?_ | refine blk_alloc ?_ _)); exact BK269.out) hb); have n3_ := Aside0.mk (blk_below (g := gb270) (o := .cells #[.int .i64 (wrap64 (bt a0 0)), .int .i64 x271001_10, .slice Ao64 x271002_10.length co64, .string x271003_10, .slice Ao65 x271004_10.length co65] 24 (0, 0)) (by (with_reducible repeat (first | refine blk_drewN ?_ _ | refine blk_drew ?_ | refine blk_alloc ?_ _)); exact BK270.out) hb); have n4_ := Aside0.mk (below_step (by repeat (first | (with_reducible first | exact HB.out | apply below_alloc | apply pw_below_drewN | apply below_drew1 | refine below_set ?_ GE269.out | refine below_set ?_ GE270.out) | exact HB.out)) hb); clear HO_271002; clear HO_271004; clear BK269; clear BK270; clear HB; have HO_271002 := n0_; have HO_271004 := n1_; have BK269 := n2_; have BK270 := n3_; have HB := n4_; clear n0_ n1_ n2_ n3_ n4_; (try clear hb); (try clear hb2); (try clear hk); (try clear hi); have hcz69_0 : w68.cell? ⟨gb270, 0, none⟩ = some (.int .i64 (wrap64 (bt a0 0))) := (blk_cell BK270.out 0).trans rfl; have hcz69_1 : w68.cell? ⟨gb270, 1, none⟩ = some (.int .i64 x271001_10) := (blk_cell BK270.out 1).trans rfl; have hcz69_2 : w68.cell? ⟨gb270, 2, none⟩ = some (.slice Ao64 x271002_10.length co64) := (blk_cell BK270.out 2).trans rfl; have hcz69_3 : w68.cell? ⟨gb270, 3, none⟩ = some (.string x271003_10) := (blk_cell BK270.out 3).trans rfl; have hcz69_4 : w68.cell? ⟨gb270, 4, none⟩ = some (.slice Ao65 x271004_10.length co65) := (blk_cell BK270.out 4).trans rfl; have hfz69_0 := blk_frozen BK270.out 0; have hfz69_1 := blk_frozen BK270.out 1; have hfz69_2 := blk_frozen BK270.out 2; have hfz69_3 := blk_frozen BK270.out 3; have hfz69_4 := blk_frozen BK270.out 4; have hcz70_0 : w68.cell? ⟨gb269, 0, none⟩ = some (.int .i64 x270000_10) := (blk_cell BK269.out 0).trans rfl; have hcz70_1 : w68.cell? ⟨gb269, 1, none⟩ = some (.int .i64 x270001_10) := (blk_cell BK269.out 1).trans rfl; have hcz70_2 : w68.cell? ⟨gb269, 2, none⟩ = some (.slice none 0 0) := (blk_cell BK269.out 2).trans rfl; have hcz70_3 : w68.cell? ⟨gb269, 3, none⟩ = some (.string x270003_10) := (blk_cell BK269.out 3).trans rfl; have hcz70_4 : w68.cell? ⟨gb269, 4, none⟩ = some (.slice none 0 0) := (blk_cell BK269.out 4).trans rfl; have hfz70_0 := blk_frozen BK269.out 0; have hfz70_1 := blk_frozen BK269.out 1; have hfz70_2 := blk_frozen BK269.out 2; have hfz70_3 := blk_frozen BK269.out 3; have hfz70_4 := blk_frozen BK269.out 4))
                    refine bodyPost_ret (results_ct rfl _ _ gb269 24 #[.int .i64 (wrap64 (bt a0 0)), .int .i64 x271001_10, .slice Ao64 x271002_10.length co64, .string x271003_10, .slice Ao65 x271004_10.length co65] (0, 0) _ rfl (by (with_reducible repeat (first | refine blk_drewN ?_ _ | refine blk_drew ?_ | refine blk_alloc ?_ _)); refine blk_put (cs := #[.int .i64 (wrap64 (bt a0 0)), .int .i64 x271001_10, .slice Ao64 x271002_10.length co64, .string x271003_10, .slice none 0 0]) ?_ 4 _ rfl; (with_reducible repeat (first | refine blk_drewN ?_ _ | refine blk_drew ?_ | refine blk_alloc ?_ _)); refine blk_put (cs := #[.int .i64 (wrap64 (bt a0 0)), .int .i64 x271001_10, .slice Ao64 x271002_10.length co64, .string x270003_10, .slice none 0 0]) ?_ 3 _ rfl; (with_reducible repeat (first | refine blk_drewN ?_ _ | refine blk_drew ?_ | refine blk_alloc ?_ _)); refine blk_put (cs := #[.int .i64 (wrap64 (bt a0 0)), .int .i64 x271001_10, .slice none 0 0, .string x270003_10, .slice none 0 0]) ?_ 2 _ rfl; (with_reducible repeat (first | refine blk_drewN ?_ _ | refine blk_drew ?_ | refine blk_alloc ?_ _)); refine blk_put (cs := #[.int .i64 (wrap64 (bt a0 0)), .int .i64 x270001_10, .slice none 0 0, .string x270003_10, .slice none 0 0]) ?_ 1 _ rfl; (with_reducible repeat (first | refine blk_drewN ?_ _ | refine blk_drew ?_ | refine blk_alloc ?_ _)); refine blk_put (cs := #[.int .i64 x270000_10, .int .i64 x270001_10, .slice none 0 0, .string x270003_10, .slice none 0 0]) ?_ 0 _ rfl; (with_reducible repeat (first | refine blk_drewN ?_ _ | refine blk_drew ?_ | refine blk_alloc ?_ _)); exact BK269.out) Try.underlying24 rfl (by kernel_rfl)) rfl ?_
                    exact ⟨_, _, by first | rfl | (simp [errW_none, errW_some] <;> rfl) | (simp [*, errW_none, errW_some] <;> rfl), by (with_reducible repeat (first | apply Kd.R_alloc | apply Kd.R_drewN | apply Kd.R_drew)); exact Kd.R_mono (Kd.R_far (p := ⟨gb269, 4, none⟩) (Kd.R_far (p := ⟨gb269, 3, none⟩) (Kd.R_far (p := ⟨gb269, 2, none⟩) (Kd.R_far (p := ⟨gb269, 1, none⟩) (Kd.R_far (p := ⟨gb269, 0, none⟩) (Kd.R_types HO_271002.out BK269.out (by decide)) (fun _ hk => hk.2) (.int .i64 (wrap64 (bt a0 0)))) (fun _ hk => hk.2) (.int .i64 x271001_10)) (fun _ hk => hk.2) (.slice Ao64 x271002_10.length co64)) (fun _ hk => hk.2) (.string x271003_10)) (fun _ hk => hk.2) (.slice Ao65 x271004_10.length co65)) (fun _ hk => hk.1), by (with_reducible repeat (first | apply Kd.R_alloc | apply Kd.R_drewN | apply Kd.R_drew)); exact Kd.R_mono (Kd.R_far (p := ⟨gb269, 4, none⟩) (Kd.R_far (p := ⟨gb269, 3, none⟩) (Kd.R_far (p := ⟨gb269, 2, none⟩) (Kd.R_far (p := ⟨gb269, 1, none⟩) (Kd.R_far (p := ⟨gb269, 0, none⟩) (Kd.R_types HO_271004.out BK269.out (by decide)) (fun _ hk => hk.2) (.int .i64 (wrap64 (bt a0 0)))) (fun _ hk => hk.2) (.int .i64 x271001_10)) (fun _ hk => hk.2) (.slice Ao64 x271002_10.length co64)) (fun _ hk => hk.2) (.string x271003_10)) (fun _ hk => hk.2) (.slice Ao65 x271004_10.length co65)) (fun _ hk => hk.1), by repeat (first | (with_reducible first | exact HB.out | apply below_alloc | apply pw_below_drewN | apply below_drew1 | refine below_set ?_ GE269.out | refine below_set ?_ GE270.out) | exact HB.out)⟩
                  · rw [if_neg c61] at H
                    have c61b0 : (t287.toList == a0.toList) = false := beq_eq_false_iff_ne.mpr c61
                    have c61b1 : (t287.toList != a0.toList) = true := bne_iff_ne.mpr c61
                    simp only [Option.some.injEq, Prod.mk.injEq] at H
                    obtain ⟨rfl, rfl, rfl, rfl, rfl, rfl⟩ := H
                    have hnb71 := NB270_269.out
                    have hnc71 := NB269_270.out
                    have hcz72_0 : wc.cell? ⟨gb270, 0, none⟩ = some (.int .i64 (wrap64 (bt a0 0))) := (blk_cell BK270.out 0).trans rfl
                    have hcz72_1 : wc.cell? ⟨gb270, 1, none⟩ = some (.int .i64 x271001_10) := (blk_cell BK270.out 1).trans rfl
                    have hcz72_2 : wc.cell? ⟨gb270, 2, none⟩ = some (u271002) := (blk_cell BK270.out 2).trans rfl
                    have hcz72_3 : wc.cell? ⟨gb270, 3, none⟩ = some (.string x271003_10) := (blk_cell BK270.out 3).trans rfl
                    have hcz72_4 : wc.cell? ⟨gb270, 4, none⟩ = some (u271004) := (blk_cell BK270.out 4).trans rfl
                    have hfz72_0 := blk_frozen BK270.out 0
                    have hfz72_1 := blk_frozen BK270.out 1
                    have hfz72_2 := blk_frozen BK270.out 2
                    have hfz72_3 := blk_frozen BK270.out 3
                    have hfz72_4 := blk_frozen BK270.out 4
                    obtain ⟨Ao73, co73, eo73⟩ := Kd.R_slice HO_271002.out
                    subst eo73
                    obtain ⟨Ao74, co74, eo74⟩ := Kd.R_slice HO_271004.out
                    subst eo74
                    go_wp2_with (first | ((with_reducible refine gate_callee (f := 12) rfl ?_); refine goesL_ (some 107) rfl rfl Try.func12 (by kernel_rfl) rfl #[.agg #[.int .i64 (wrap64 (bt a0 0)), .int .i64 x271001_10, .slice Ao73 x271002_10.length co73, .string x271003_10, .slice Ao74 x271004_10.length co74]] rfl (by (try simp only [List.map_toArray, List.map_cons, List.map_nil]); first | done | rfl | (simp only [List.length_drop, List.length_take]; rfl)) ?_; (with_reducible refine (palaverref07_Right.calls kj10 (wrap64 (bt a0 0)) x271001_10 _ _ x271002_10 x271003_10 _ _ x271004_10 true _ ?side1 ?side2 ?side3 ?side4 A58.out).mono ?_); (case side1 => repeat (first | exact (Kd.R_reads' HO_271002.out).2.2 | (with_reducible refine Kd.C_alloc ?_ _) | (with_reducible refine Kd.C_drewN ?_ _) | (with_reducible refine Kd.C_drew ?_))); (case side2 => exact (Kd.R_reads' HO_271002.out).2.1); (case side3 => repeat (first | exact (Kd.R_reads' HO_271004.out).2.2 | (with_reducible refine Kd.C_alloc ?_ _) | (with_reducible refine Kd.C_drewN ?_ _) | (with_reducible refine Kd.C_drew ?_))); (case side4 => exact (Kd.R_reads' HO_271004.out).2.1); rintro e w75 ⟨rfl, hb⟩; refine ⟨_, rfl, ?_⟩; have n0_ := Aside0.mk (Kd.R_below (by (with_reducible repeat (first | apply Kd.R_alloc | apply Kd.R_drewN | apply Kd.R_drew)); exact HO_271002.out) hb); have n1_ := Aside0.mk (Kd.R_below (by (with_reducible repeat (first | apply Kd.R_alloc | apply Kd.R_drewN | apply Kd.R_drew)); exact HO_271004.out) hb); have n2_ := Aside0.mk (blk_below (g := gb269) (o := .cells #[.int .i64 x270000_10, .int .i64 x270001_10, .slice none 0 0, .string x270003_10, .slice none 0 0] 24 (0, 0)) (by (with_reducible repeat (first | refine blk_drewN ?_ _ | refine blk_drew ?_ | refine blk_alloc ?_ _)); exact BK269.out) hb); have n3_ := Aside0.mk (blk_below (g := gb270) (o := .cells #[.int .i64 (wrap64 (bt a0 0)), .int .i64 x271001_10, .slice Ao73 x271002_10.length co73, .string x271003_10, .slice Ao74 x271004_10.length co74] 24 (0, 0)) (by (with_reducible repeat (first | refine blk_drewN ?_ _ | refine blk_drew ?_ | refine blk_alloc ?_ _)); exact BK270.out) hb); have n4_ := Aside0.mk (below_step (by repeat (first | (with_reducible first | exact HB.out | apply below_alloc | apply pw_below_drewN | apply below_drew1 | refine below_set ?_ GE269.out | refine below_set ?_ GE270.out) | exact HB.out)) hb); clear HO_271002; clear HO_271004; clear BK269; clear BK270; clear HB; have HO_271002 := n0_; have HO_271004 := n1_; have BK269 := n2_; have BK270 := n3_; have HB := n4_; clear n0_ n1_ n2_ n3_ n4_; (try clear hb); (try clear hb2); (try clear hk); (try clear hi); have hcz76_0 : w75.cell? ⟨gb270, 0, none⟩ = some (.int .i64 (wrap64 (bt a0 0))) := (blk_cell BK270.out 0).trans rfl; have hcz76_1 : w75.cell? ⟨gb270, 1, none⟩ = some (.int .i64 x271001_10) := (blk_cell BK270.out 1).trans rfl; have hcz76_2 : w75.cell? ⟨gb270, 2, none⟩ = some (.slice Ao73 x271002_10.length co73) := (blk_cell BK270.out 2).trans rfl; have hcz76_3 : w75.cell? ⟨gb270, 3, none⟩ = some (.string x271003_10) := (blk_cell BK270.out 3).trans rfl; have hcz76_4 : w75.cell? ⟨gb270, 4, none⟩ = some (.slice Ao74 x271004_10.length co74) := (blk_cell BK270.out 4).trans rfl; have hfz76_0 := blk_frozen BK270.out 0; have hfz76_1 := blk_frozen BK270.out 1; have hfz76_2 := blk_frozen BK270.out 2; have hfz76_3 := blk_frozen BK270.out 3; have hfz76_4 := blk_frozen BK270.out 4) | (go_at_call 14; (with_reducible refine (palaverref07_Encode.calls kj10 (wrap64 (bt a0 0)) x271001_10 _ _ x271002_10 x271003_10 _ _ x271004_10 t287 _ ?side1 ?side2 ?side3 ?side4 A60.out).mono ?_); (case side1 => repeat (first | exact (Kd.R_reads' HO_271002.out).2.2 | (with_reducible refine Kd.C_alloc ?_ _) | (with_reducible refine Kd.C_drewN ?_ _) | (with_reducible refine Kd.C_drew ?_))); (case side2 => exact (Kd.R_reads' HO_271002.out).2.1); (case side3 => repeat (first | exact (Kd.R_reads' HO_271004.out).2.2 | (with_reducible refine Kd.C_alloc ?_ _) | (with_reducible refine Kd.C_drewN ?_ _) | (with_reducible refine Kd.C_drew ?_))); (case side4 => exact (Kd.R_reads' HO_271004.out).2.1); rintro e w77 ⟨rfl, hb⟩; have n0_ := Aside0.mk (Kd.R_below (by (with_reducible repeat (first | apply Kd.R_alloc | apply Kd.R_drewN | apply Kd.R_drew)); exact HO_271002.out) hb); have n1_ := Aside0.mk (Kd.R_below (by (with_reducible repeat (first | apply Kd.R_alloc | apply Kd.R_drewN | apply Kd.R_drew)); exact HO_271004.out) hb); have n2_ := Aside0.mk (blk_below (g := gb269) (o := .cells #[.int .i64 x270000_10, .int .i64 x270001_10, .slice none 0 0, .string x270003_10, .slice none 0 0] 24 (0, 0)) (by (with_reducible repeat (first | refine blk_drewN ?_ _ | refine blk_drew ?_ | refine blk_alloc ?_ _)); exact BK269.out) hb); have n3_ := Aside0.mk (blk_below (g := gb270) (o := .cells #[.int .i64 (wrap64 (bt a0 0)), .int .i64 x271001_10, .slice Ao73 x271002_10.length co73, .string x271003_10, .slice Ao74 x271004_10.length co74] 24 (0, 0)) (by (with_reducible repeat (first | refine blk_drewN ?_ _ | refine blk_drew ?_ | refine blk_alloc ?_ _)); exact BK270.out) hb); have n4_ := Aside0.mk (below_step (by repeat (first | (with_reducible first | exact HB.out | apply below_alloc | apply pw_below_drewN | apply below_drew1 | refine below_set ?_ GE269.out | refine below_set ?_ GE270.out) | exact HB.out)) hb); clear HO_271002; clear HO_271004; clear BK269; clear BK270; clear HB; have HO_271002 := n0_; have HO_271004 := n1_; have BK269 := n2_; have BK270 := n3_; have HB := n4_; clear n0_ n1_ n2_ n3_ n4_; (try clear hb); (try clear hb2); (try clear hk); (try clear hi); have hcz78_0 : w77.cell? ⟨gb269, 0, none⟩ = some (.int .i64 x270000_10) := (blk_cell BK269.out 0).trans rfl; have hcz78_1 : w77.cell? ⟨gb269, 1, none⟩ = some (.int .i64 x270001_10) := (blk_cell BK269.out 1).trans rfl; have hcz78_2 : w77.cell? ⟨gb269, 2, none⟩ = some (.slice none 0 0) := (blk_cell BK269.out 2).trans rfl; have hcz78_3 : w77.cell? ⟨gb269, 3, none⟩ = some (.string x270003_10) := (blk_cell BK269.out 3).trans rfl; have hcz78_4 : w77.cell? ⟨gb269, 4, none⟩ = some (.slice none 0 0) := (blk_cell BK269.out 4).trans rfl; have hfz78_0 := blk_frozen BK269.out 0; have hfz78_1 := blk_frozen BK269.out 1; have hfz78_2 := blk_frozen BK269.out 2; have hfz78_3 := blk_frozen BK269.out 3; have hfz78_4 := blk_frozen BK269.out 4))
                    refine bodyPost_ret (results_ct rfl _ _ gb269 24 #[.int .i64 0, .int .i64 0, .slice none 0 0, .string (⟨#[]⟩ : ByteArray), .slice none 0 0] (0, 0) _ rfl (by (with_reducible repeat (first | refine blk_drewN ?_ _ | refine blk_drew ?_ | refine blk_alloc ?_ _)); refine blk_put (cs := #[.int .i64 0, .int .i64 0, .slice none 0 0, .string (⟨#[]⟩ : ByteArray), .slice none 0 0]) ?_ 4 _ rfl; (with_reducible repeat (first | refine blk_drewN ?_ _ | refine blk_drew ?_ | refine blk_alloc ?_ _)); refine blk_put (cs := #[.int .i64 0, .int .i64 0, .slice none 0 0, .string x270003_10, .slice none 0 0]) ?_ 3 _ rfl; (with_reducible repeat (first | refine blk_drewN ?_ _ | refine blk_drew ?_ | refine blk_alloc ?_ _)); refine blk_put (cs := #[.int .i64 0, .int .i64 0, .slice none 0 0, .string x270003_10, .slice none 0 0]) ?_ 2 _ rfl; (with_reducible repeat (first | refine blk_drewN ?_ _ | refine blk_drew ?_ | refine blk_alloc ?_ _)); refine blk_put (cs := #[.int .i64 0, .int .i64 x270001_10, .slice none 0 0, .string x270003_10, .slice none 0 0]) ?_ 1 _ rfl; (with_reducible repeat (first | refine blk_drewN ?_ _ | refine blk_drew ?_ | refine blk_alloc ?_ _)); refine blk_put (cs := #[.int .i64 x270000_10, .int .i64 x270001_10, .slice none 0 0, .string x270003_10, .slice none 0 0]) ?_ 0 _ rfl; (with_reducible repeat (first | refine blk_drewN ?_ _ | refine blk_drew ?_ | refine blk_alloc ?_ _)); exact BK269.out) Try.underlying24 rfl (by kernel_rfl)) rfl ?_
                    exact ⟨_, _, by first | rfl | (simp [errW_none, errW_some] <;> rfl) | (simp [*, errW_none, errW_some] <;> rfl), by first | exact Kd.R_nil _ _ _ _ _ | exact Kd.N_nil _ _ _ _ _ | exact Kd.V_nil _ _ _ _ _ | exact Kd.Q_nil _ _ _ _ _ | exact Kd.S_nil _ _ _ _ _, by first | exact Kd.R_nil _ _ _ _ _ | exact Kd.N_nil _ _ _ _ _ | exact Kd.V_nil _ _ _ _ _ | exact Kd.Q_nil _ _ _ _ _ | exact Kd.S_nil _ _ _ _ _, by repeat (first | (with_reducible first | exact HB.out | apply below_alloc | apply pw_below_drewN | apply below_drew1 | refine below_set ?_ GE269.out | refine below_set ?_ GE270.out) | exact HB.out)⟩
                · replace c59 := Bool.eq_false_iff.mpr c59
                  subst c59
                  have H1 : (some (0, 0, ([] : List ByteArray), (⟨#[]⟩ : ByteArray), ([] : List ByteArray), false)) = some (r1, r2, r3, r4, r5, r6) := by rw [if_neg (show ¬ (false = true) by decide)] at H; exact H
                  clear H
                  have H := H1
                  clear H1
                  simp only [Option.some.injEq, Prod.mk.injEq] at H
                  obtain ⟨rfl, rfl, rfl, rfl, rfl, rfl⟩ := H
                  have hnb79 := NB270_269.out
                  have hnc79 := NB269_270.out
                  have hcz80_0 : wc.cell? ⟨gb270, 0, none⟩ = some (.int .i64 (wrap64 (bt a0 0))) := (blk_cell BK270.out 0).trans rfl
                  have hcz80_1 : wc.cell? ⟨gb270, 1, none⟩ = some (.int .i64 x271001_10) := (blk_cell BK270.out 1).trans rfl
                  have hcz80_2 : wc.cell? ⟨gb270, 2, none⟩ = some (u271002) := (blk_cell BK270.out 2).trans rfl
                  have hcz80_3 : wc.cell? ⟨gb270, 3, none⟩ = some (.string x271003_10) := (blk_cell BK270.out 3).trans rfl
                  have hcz80_4 : wc.cell? ⟨gb270, 4, none⟩ = some (u271004) := (blk_cell BK270.out 4).trans rfl
                  have hfz80_0 := blk_frozen BK270.out 0
                  have hfz80_1 := blk_frozen BK270.out 1
                  have hfz80_2 := blk_frozen BK270.out 2
                  have hfz80_3 := blk_frozen BK270.out 3
                  have hfz80_4 := blk_frozen BK270.out 4
                  obtain ⟨Ao81, co81, eo81⟩ := Kd.R_slice HO_271002.out
                  subst eo81
                  obtain ⟨Ao82, co82, eo82⟩ := Kd.R_slice HO_271004.out
                  subst eo82
                  go_wp2_with (first | ((with_reducible refine gate_callee (f := 12) rfl ?_); refine goesL_ (some 107) rfl rfl Try.func12 (by kernel_rfl) rfl #[.agg #[.int .i64 (wrap64 (bt a0 0)), .int .i64 x271001_10, .slice Ao81 x271002_10.length co81, .string x271003_10, .slice Ao82 x271004_10.length co82]] rfl (by (try simp only [List.map_toArray, List.map_cons, List.map_nil]); first | done | rfl | (simp only [List.length_drop, List.length_take]; rfl)) ?_; (with_reducible refine (palaverref07_Right.calls kj10 (wrap64 (bt a0 0)) x271001_10 _ _ x271002_10 x271003_10 _ _ x271004_10 false _ ?side1 ?side2 ?side3 ?side4 A58.out).mono ?_); (case side1 => repeat (first | exact (Kd.R_reads' HO_271002.out).2.2 | (with_reducible refine Kd.C_alloc ?_ _) | (with_reducible refine Kd.C_drewN ?_ _) | (with_reducible refine Kd.C_drew ?_))); (case side2 => exact (Kd.R_reads' HO_271002.out).2.1); (case side3 => repeat (first | exact (Kd.R_reads' HO_271004.out).2.2 | (with_reducible refine Kd.C_alloc ?_ _) | (with_reducible refine Kd.C_drewN ?_ _) | (with_reducible refine Kd.C_drew ?_))); (case side4 => exact (Kd.R_reads' HO_271004.out).2.1); rintro e w83 ⟨rfl, hb⟩; refine ⟨_, rfl, ?_⟩; have n0_ := Aside0.mk (Kd.R_below (by (with_reducible repeat (first | apply Kd.R_alloc | apply Kd.R_drewN | apply Kd.R_drew)); exact HO_271002.out) hb); have n1_ := Aside0.mk (Kd.R_below (by (with_reducible repeat (first | apply Kd.R_alloc | apply Kd.R_drewN | apply Kd.R_drew)); exact HO_271004.out) hb); have n2_ := Aside0.mk (blk_below (g := gb269) (o := .cells #[.int .i64 x270000_10, .int .i64 x270001_10, .slice none 0 0, .string x270003_10, .slice none 0 0] 24 (0, 0)) (by (with_reducible repeat (first | refine blk_drewN ?_ _ | refine blk_drew ?_ | refine blk_alloc ?_ _)); exact BK269.out) hb); have n3_ := Aside0.mk (blk_below (g := gb270) (o := .cells #[.int .i64 (wrap64 (bt a0 0)), .int .i64 x271001_10, .slice Ao81 x271002_10.length co81, .string x271003_10, .slice Ao82 x271004_10.length co82] 24 (0, 0)) (by (with_reducible repeat (first | refine blk_drewN ?_ _ | refine blk_drew ?_ | refine blk_alloc ?_ _)); exact BK270.out) hb); have n4_ := Aside0.mk (below_step (by repeat (first | (with_reducible first | exact HB.out | apply below_alloc | apply pw_below_drewN | apply below_drew1 | refine below_set ?_ GE269.out | refine below_set ?_ GE270.out) | exact HB.out)) hb); clear HO_271002; clear HO_271004; clear BK269; clear BK270; clear HB; have HO_271002 := n0_; have HO_271004 := n1_; have BK269 := n2_; have BK270 := n3_; have HB := n4_; clear n0_ n1_ n2_ n3_ n4_; (try clear hb); (try clear hb2); (try clear hk); (try clear hi); have hcz84_0 : w83.cell? ⟨gb269, 0, none⟩ = some (.int .i64 x270000_10) := (blk_cell BK269.out 0).trans rfl; have hcz84_1 : w83.cell? ⟨gb269, 1, none⟩ = some (.int .i64 x270001_10) := (blk_cell BK269.out 1).trans rfl; have hcz84_2 : w83.cell? ⟨gb269, 2, none⟩ = some (.slice none 0 0) := (blk_cell BK269.out 2).trans rfl; have hcz84_3 : w83.cell? ⟨gb269, 3, none⟩ = some (.string x270003_10) := (blk_cell BK269.out 3).trans rfl; have hcz84_4 : w83.cell? ⟨gb269, 4, none⟩ = some (.slice none 0 0) := (blk_cell BK269.out 4).trans rfl; have hfz84_0 := blk_frozen BK269.out 0; have hfz84_1 := blk_frozen BK269.out 1; have hfz84_2 := blk_frozen BK269.out 2; have hfz84_3 := blk_frozen BK269.out 3; have hfz84_4 := blk_frozen BK269.out 4))
                  refine bodyPost_ret (results_ct rfl _ _ gb269 24 #[.int .i64 0, .int .i64 0, .slice none 0 0, .string (⟨#[]⟩ : ByteArray), .slice none 0 0] (0, 0) _ rfl (by (with_reducible repeat (first | refine blk_drewN ?_ _ | refine blk_drew ?_ | refine blk_alloc ?_ _)); refine blk_put (cs := #[.int .i64 0, .int .i64 0, .slice none 0 0, .string (⟨#[]⟩ : ByteArray), .slice none 0 0]) ?_ 4 _ rfl; (with_reducible repeat (first | refine blk_drewN ?_ _ | refine blk_drew ?_ | refine blk_alloc ?_ _)); refine blk_put (cs := #[.int .i64 0, .int .i64 0, .slice none 0 0, .string x270003_10, .slice none 0 0]) ?_ 3 _ rfl; (with_reducible repeat (first | refine blk_drewN ?_ _ | refine blk_drew ?_ | refine blk_alloc ?_ _)); refine blk_put (cs := #[.int .i64 0, .int .i64 0, .slice none 0 0, .string x270003_10, .slice none 0 0]) ?_ 2 _ rfl; (with_reducible repeat (first | refine blk_drewN ?_ _ | refine blk_drew ?_ | refine blk_alloc ?_ _)); refine blk_put (cs := #[.int .i64 0, .int .i64 x270001_10, .slice none 0 0, .string x270003_10, .slice none 0 0]) ?_ 1 _ rfl; (with_reducible repeat (first | refine blk_drewN ?_ _ | refine blk_drew ?_ | refine blk_alloc ?_ _)); refine blk_put (cs := #[.int .i64 x270000_10, .int .i64 x270001_10, .slice none 0 0, .string x270003_10, .slice none 0 0]) ?_ 0 _ rfl; (with_reducible repeat (first | refine blk_drewN ?_ _ | refine blk_drew ?_ | refine blk_alloc ?_ _)); exact BK269.out) Try.underlying24 rfl (by kernel_rfl)) rfl ?_
                  exact ⟨_, _, by first | rfl | (simp [errW_none, errW_some] <;> rfl) | (simp [*, errW_none, errW_some] <;> rfl), by first | exact Kd.R_nil _ _ _ _ _ | exact Kd.N_nil _ _ _ _ _ | exact Kd.V_nil _ _ _ _ _ | exact Kd.Q_nil _ _ _ _ _ | exact Kd.S_nil _ _ _ _ _, by first | exact Kd.R_nil _ _ _ _ _ | exact Kd.N_nil _ _ _ _ _ | exact Kd.V_nil _ _ _ _ _ | exact Kd.Q_nil _ _ _ _ _ | exact Kd.S_nil _ _ _ _ _, by repeat (first | (with_reducible first | exact HB.out | apply below_alloc | apply pw_below_drewN | apply below_drew1 | refine below_set ?_ GE269.out | refine below_set ?_ GE270.out) | exact HB.out)⟩
          · rw [if_neg c9] at H
            exact absurd H (by simp)
        · rw [if_neg c7] at H
          exact absurd H (by simp)

end Go.Proofs.Ytbiempnleljciaa.PP
