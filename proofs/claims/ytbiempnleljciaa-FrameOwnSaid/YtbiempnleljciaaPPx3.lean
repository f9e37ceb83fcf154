-- WRITTEN BY a program of this work (wip/ownprint.py), for this seat
import Derived.Test.YtbiempnleljciaaPPx0
import Derived.Test.YtbiempnleljciaaPPx2
namespace Go.Proofs.Ytbiempnleljciaa.PP
open Go.RowKit Go.Proofs.YtbiempnleljciaaW.PrintWords Go.Proofs.YtbiempnleljciaaW.PrintLast Go.Proofs.YtbiempnleljciaaW.PrintMore
attribute [local go_sem] max2_int min2_int max_two min_two max_three min_three max_four min_four   -- for this text's walks alone
set_option linter.unusedVariables false
set_option linter.unusedSimpArgs false

/-! ### frame_Right: function 13 -/
mutual
def frame_Right.j0 : Nat → Bool → Int → Int → List ByteArray → ByteArray → List ByteArray → Option (Bool)
  | 0, _, _, _, _, _, _ => none
  | k + 1, x3, x116000, x116001, x116002, x116003, x116004 => if x3 = true then (frame_Right.j1 k x3 (decide ((x116004.length : Int) > 0)) x116000 x116001 x116002 x116003 x116004) else (frame_Right.j1 k x3 false x116000 x116001 x116002 x116003 x116004)
def frame_Right.j4 : Nat → Int → Int → List ByteArray → ByteArray → List ByteArray → Option (Bool)
  | 0, _, _, _, _, _ => none
  | k + 1, x116000, x116001, x116002, x116003, x116004 => if x116000 = 1 then ((frame_ids.f k x116002).bind fun t116 => (some t116)) else (if x116000 = 2 then ((frame_ids.f k x116002).bind fun t117 => (if t117 = true then (if x116003.toList = ([] : List UInt8) then (some false) else (some (decide ((x116003.size : Int) ≤ 512)))) else (some false))) else (if x116000 = 3 then ((frame_ids.f k x116002).bind fun t118 => (if t118 = true then (some (decide ((x116002.length : Int) > 0))) else (some false))) else (if x116000 = 4 then ((frame_texts.f k x116004 16).bind fun t119 => (some t119)) else (if x116000 = 5 then (if x116001 ≥ 0 then (if x116001 ≤ 255 then ((frame_texts.f k x116004 1).bind fun t120 => (if t120 = true then (if 0 < (x116004.length : Int) then (if 0 < ((rdOf ByteArray.empty x116004 0).size : Int) then (some ((bt (rdOf ByteArray.empty x116004 0) 0) != 5)) else (none)) else (none)) else (some false))) else (some false)) else (some false)) else (some false)))))
def frame_Right.j1 : Nat → Bool → Bool → Int → Int → List ByteArray → ByteArray → List ByteArray → Option (Bool)
  | 0, _, _, _, _, _, _, _ => none
  | k + 1, x3, x12, x116000, x116001, x116002, x116003, x116004 => if x12 = true then (some false) else (if x3 = true then (frame_Right.j2 k false x116000 x116001 x116002 x116003 x116004) else (frame_Right.j2 k (decide ((x116002.length : Int) > 0)) x116000 x116001 x116002 x116003 x116004))
def frame_Right.j2 : Nat → Bool → Int → Int → List ByteArray → ByteArray → List ByteArray → Option (Bool)
  | 0, _, _, _, _, _, _ => none
  | k + 1, x12, x116000, x116001, x116002, x116003, x116004 => if x12 = true then (some false) else (if x116000 = 2 then (frame_Right.j3 k false x116000 x116001 x116002 x116003 x116004) else (frame_Right.j3 k (x116003.toList != ([] : List UInt8)) x116000 x116001 x116002 x116003 x116004))
def frame_Right.j3 : Nat → Bool → Int → Int → List ByteArray → ByteArray → List ByteArray → Option (Bool)
  | 0, _, _, _, _, _, _ => none
  | k + 1, x12, x116000, x116001, x116002, x116003, x116004 => if x12 = true then (some false) else (if x116000 = 5 then (frame_Right.j4 k x116000 x116001 x116002 x116003 x116004) else (if x116001 = 0 then (frame_Right.j4 k x116000 x116001 x116002 x116003 x116004) else (some false)))
end
def frame_Right.f (k : Nat) (a0_0 : Int) (a0_1 : Int) (l0_2 : List ByteArray) (a0_3 : ByteArray) (l0_4 : List ByteArray) : Option (Bool) := if a0_0 ≥ 1 then (frame_Right.j0 k (decide (a0_0 ≤ 3)) a0_0 a0_1 l0_2 a0_3 l0_4) else (frame_Right.j0 k false a0_0 a0_1 l0_2 a0_3 l0_4)
theorem frame_Right.mono_l : ∀ k, (∀ y0 y1 y2 y3 y4 y5, LeO (frame_Right.j0 k y0 y1 y2 y3 y4 y5) (frame_Right.j0 (k + 1) y0 y1 y2 y3 y4 y5)) ∧ (∀ y0 y1 y2 y3 y4, LeO (frame_Right.j4 k y0 y1 y2 y3 y4) (frame_Right.j4 (k + 1) y0 y1 y2 y3 y4)) ∧ (∀ y0 y1 y2 y3 y4 y5 y6, LeO (frame_Right.j1 k y0 y1 y2 y3 y4 y5 y6) (frame_Right.j1 (k + 1) y0 y1 y2 y3 y4 y5 y6)) ∧ (∀ y0 y1 y2 y3 y4 y5, LeO (frame_Right.j2 k y0 y1 y2 y3 y4 y5) (frame_Right.j2 (k + 1) y0 y1 y2 y3 y4 y5)) ∧ (∀ y0 y1 y2 y3 y4 y5, LeO (frame_Right.j3 k y0 y1 y2 y3 y4 y5) (frame_Right.j3 (k + 1) y0 y1 y2 y3 y4 y5))
  | 0 => ⟨fun _ _ _ _ _ _ r h => by simp [frame_Right.j0] at h, fun _ _ _ _ _ r h => by simp [frame_Right.j4] at h, fun _ _ _ _ _ _ _ r h => by simp [frame_Right.j1] at h, fun _ _ _ _ _ _ r h => by simp [frame_Right.j2] at h, fun _ _ _ _ _ _ r h => by simp [frame_Right.j3] at h⟩
  | k + 1 => by
    obtain ⟨ih0, ih1, ih2, ih3, ih4⟩ := frame_Right.mono_l k
    refine ⟨?_, ?_, ?_, ?_, ?_⟩
    · intro y0 y1 y2 y3 y4 y5
      unfold frame_Right.j0
      repeat' first
      | (with_reducible exact ih0 _ _ _ _ _ _)
      | (with_reducible exact ih1 _ _ _ _ _)
      | (with_reducible exact ih2 _ _ _ _ _ _ _)
      | (with_reducible exact ih3 _ _ _ _ _ _)
      | (with_reducible exact ih4 _ _ _ _ _ _)
      | (with_reducible exact frame_ids.mono _ _)
      | (with_reducible exact frame_texts.mono _ _ _)
      | (with_reducible exact LeO.refl _)
      | (with_reducible exact LeO.none _)
      | (with_reducible refine LeO.ite ?_ ?_)
      | (with_reducible refine LeO.bind ?_ (fun _ => ?_))
      | exact ih0 _ _ _ _ _ _
      | exact ih1 _ _ _ _ _
      | exact ih2 _ _ _ _ _ _ _
      | exact ih3 _ _ _ _ _ _
      | exact ih4 _ _ _ _ _ _
      | exact frame_ids.mono _ _
      | exact frame_texts.mono _ _ _
      | exact LeO.none _
      | refine LeO.ite ?_ ?_
      | refine LeO.bind ?_ (fun _ => ?_)
    · intro y0 y1 y2 y3 y4
      unfold frame_Right.j4
      repeat' first
      | (with_reducible exact ih0 _ _ _ _ _ _)
      | (with_reducible exact ih1 _ _ _ _ _)
      | (with_reducible exact ih2 _ _ _ _ _ _ _)
      | (with_reducible exact ih3 _ _ _ _ _ _)
      | (with_reducible exact ih4 _ _ _ _ _ _)
      | (with_reducible exact frame_ids.mono _ _)
      | (with_reducible exact frame_texts.mono _ _ _)
      | (with_reducible exact LeO.refl _)
      | (with_reducible exact LeO.none _)
      | (with_reducible refine LeO.ite ?_ ?_)
      | (with_reducible refine LeO.bind ?_ (fun _ => ?_))
      | exact ih0 _ _ _ _ _ _
      | exact ih1 _ _ _ _ _
      | exact ih2 _ _ _ _ _ _ _
      | exact ih3 _ _ _ _ _ _
      | exact ih4 _ _ _ _ _ _
      | exact frame_ids.mono _ _
      | exact frame_texts.mono _ _ _
      | exact LeO.none _
      | refine LeO.ite ?_ ?_
      | refine LeO.bind ?_ (fun _ => ?_)
    · intro y0 y1 y2 y3 y4 y5 y6
      unfold frame_Right.j1
      repeat' first
      | (with_reducible exact ih0 _ _ _ _ _ _)
      | (with_reducible exact ih1 _ _ _ _ _)
      | (with_reducible exact ih2 _ _ _ _ _ _ _)
      | (with_reducible exact ih3 _ _ _ _ _ _)
      | (with_reducible exact ih4 _ _ _ _ _ _)
      | (with_reducible exact frame_ids.mono _ _)
      | (with_reducible exact frame_texts.mono _ _ _)
      | (with_reducible exact LeO.refl _)
      | (with_reducible exact LeO.none _)
      | (with_reducible refine LeO.ite ?_ ?_)
      | (with_reducible refine LeO.bind ?_ (fun _ => ?_))
      | exact ih0 _ _ _ _ _ _
      | exact ih1 _ _ _ _ _
      | exact ih2 _ _ _ _ _ _ _
      | exact ih3 _ _ _ _ _ _
      | exact ih4 _ _ _ _ _ _
      | exact frame_ids.mono _ _
      | exact frame_texts.mono _ _ _
      | exact LeO.none _
      | refine LeO.ite ?_ ?_
      | refine LeO.bind ?_ (fun _ => ?_)
    · intro y0 y1 y2 y3 y4 y5
      unfold frame_Right.j2
      repeat' first
      | (with_reducible exact ih0 _ _ _ _ _ _)
      | (with_reducible exact ih1 _ _ _ _ _)
      | (with_reducible exact ih2 _ _ _ _ _ _ _)
      | (with_reducible exact ih3 _ _ _ _ _ _)
      | (with_reducible exact ih4 _ _ _ _ _ _)
      | (with_reducible exact frame_ids.mono _ _)
      | (with_reducible exact frame_texts.mono _ _ _)
      | (with_reducible exact LeO.refl _)
      | (with_reducible exact LeO.none _)
      | (with_reducible refine LeO.ite ?_ ?_)
      | (with_reducible refine LeO.bind ?_ (fun _ => ?_))
      | exact ih0 _ _ _ _ _ _
      | exact ih1 _ _ _ _ _
      | exact ih2 _ _ _ _ _ _ _
      | exact ih3 _ _ _ _ _ _
      | exact ih4 _ _ _ _ _ _
      | exact frame_ids.mono _ _
      | exact frame_texts.mono _ _ _
      | exact LeO.none _
      | refine LeO.ite ?_ ?_
      | refine LeO.bind ?_ (fun _ => ?_)
    · intro y0 y1 y2 y3 y4 y5
      unfold frame_Right.j3
      repeat' first
      | (with_reducible exact ih0 _ _ _ _ _ _)
      | (with_reducible exact ih1 _ _ _ _ _)
      | (with_reducible exact ih2 _ _ _ _ _ _ _)
      | (with_reducible exact ih3 _ _ _ _ _ _)
      | (with_reducible exact ih4 _ _ _ _ _ _)
      | (with_reducible exact frame_ids.mono _ _)
      | (with_reducible exact frame_texts.mono _ _ _)
      | (with_reducible exact LeO.refl _)
      | (with_reducible exact LeO.none _)
      | (with_reducible refine LeO.ite ?_ ?_)
      | (with_reducible refine LeO.bind ?_ (fun _ => ?_))
      | exact ih0 _ _ _ _ _ _
      | exact ih1 _ _ _ _ _
      | exact ih2 _ _ _ _ _ _ _
      | exact ih3 _ _ _ _ _ _
      | exact ih4 _ _ _ _ _ _
      | exact frame_ids.mono _ _
      | exact frame_texts.mono _ _ _
      | exact LeO.none _
      | refine LeO.ite ?_ ?_
      | refine LeO.bind ?_ (fun _ => ?_)
theorem frame_Right.mono : ∀ a0 a1 a2 a3 a4 k, LeO (frame_Right.f k a0 a1 a2 a3 a4) (frame_Right.f (k + 1) a0 a1 a2 a3 a4) := by
  intro a0 a1 a2 a3 a4 k
  obtain ⟨ih0, ih1, ih2, ih3, ih4⟩ := frame_Right.mono_l k
  unfold frame_Right.f
  repeat' first
      | (with_reducible exact ih0 _ _ _ _ _ _)
      | (with_reducible exact ih1 _ _ _ _ _)
      | (with_reducible exact ih2 _ _ _ _ _ _ _)
      | (with_reducible exact ih3 _ _ _ _ _ _)
      | (with_reducible exact ih4 _ _ _ _ _ _)
      | (with_reducible exact frame_ids.mono _ _)
      | (with_reducible exact frame_texts.mono _ _ _)
      | (with_reducible exact LeO.refl _)
      | (with_reducible exact LeO.none _)
      | (with_reducible refine LeO.ite ?_ ?_)
      | (with_reducible refine LeO.bind ?_ (fun _ => ?_))
      | exact ih0 _ _ _ _ _ _
      | exact ih1 _ _ _ _ _
      | exact ih2 _ _ _ _ _ _ _
      | exact ih3 _ _ _ _ _ _
      | exact ih4 _ _ _ _ _ _
      | exact frame_ids.mono _ _
      | exact frame_texts.mono _ _ _
      | exact LeO.none _
      | refine LeO.ite ?_ ?_
      | refine LeO.bind ?_ (fun _ => ?_)
set_option maxHeartbeats 64000000 in
set_option maxRecDepth 100000 in
theorem frame_Right.calls (k : Nat) (a0_0 : Int) (a0_1 : Int) (A0_2 : Option Addr) (c0_2 : Nat) (l0_2 : List ByteArray) (a0_3 : ByteArray) (A0_4 : Option Addr) (c0_4 : Nat) (l0_4 : List ByteArray) (r : Bool) (w : World) (hr0_2 : Kd.C Kd.string w A0_2 l0_2.length l0_2) (hc0_2 : l0_2.length ≤ c0_2) (hr0_4 : Kd.C Kd.string w A0_4 l0_4.length l0_4) (hc0_4 : l0_4.length ≤ c0_4) (h : frame_Right.f k a0_0 a0_1 l0_2 a0_3 l0_4 = some r) :
    Calls Try.prog 13 #[.agg #[.int .i64 a0_0, .int .i64 a0_1, .slice A0_2 l0_2.length c0_2, .string a0_3, .slice A0_4 l0_4.length c0_4]] w fun e w' => e = .returned (.bool r) ∧ Below w.heap.size w w' := by
  have hu24 := Try.underlying24
  have HR0_2 := Aside0.mk hr0_2
  have HC0_2 := Aside0.mk hc0_2
  clear hr0_2 hc0_2
  have HR0_4 := Aside0.mk hr0_4
  have HC0_4 := Aside0.mk hc0_4
  clear hr0_4 hc0_4
  have HB := Aside0.mk (Below.refl w.heap.size w)
  have H : (if a0_0 ≥ 1 then (frame_Right.j0 k (decide (a0_0 ≤ 3)) a0_0 a0_1 l0_2 a0_3 l0_4) else (frame_Right.j0 k false a0_0 a0_1 l0_2 a0_3 l0_4)) = some r := h
  clear h
  have HC2 := Aside0.mk H
  clear H
  go_enter Try.func13, Try.ntmps13
  go_upto_region 1 with (first | ((with_reducible refine gate_dst (N := 1) rfl ?_); (try (refine gate_guard (by rfl) ?_; dsimp only)); refine box_event ?hg (N := 1) ?hd (cs := #[.int .i64 a0_0, .int .i64 a0_1, .slice A0_2 l0_2.length c0_2, .string a0_3, .slice A0_4 l0_4.length c0_4]) (t := 24) ?hr ?_; (case hd => rfl); (case hg => rfl); (case hr => first | (go_simp; done) | (go_simp; rfl)); intro gb115 hg w3 hbox hb; have n0_ := Aside0.mk (below_step (by repeat (first | (with_reducible first | exact HB.out | apply below_alloc | apply pw_below_drewN | apply below_drew1) | exact HB.out)) hb); have n1_ := Aside0.mk (hbox); have n2_ := Aside0.mk ((by rw [hg]; exact (below_size (by repeat (first | (with_reducible first | exact HB.out | apply below_alloc | apply pw_below_drewN | apply below_drew1) | exact HB.out))) : w.heap.size ≤ gb115)); have n3_ := Aside0.mk ((by rw [hg]; exact (below_size (by repeat (first | (with_reducible first | exact HB.out | apply below_alloc | apply pw_below_drewN | apply below_drew1) | exact HB.out))) : w.heap.size ≤ gb115)); clear HB; have HB := n0_; have BK115 := n1_; have GW115 := n2_; have GE115 := n3_; clear n0_ n1_ n2_ n3_; clear hb hbox hg))
  (try simp only [Act.put, List.setIfInBounds_toArray, List.set_cons_zero, List.set_cons_succ])
  go_cut [3] (fun v3 wc => ∃ (kq : Nat) (x3_1 : Bool), v3 = .bool x3_1 ∧ Aside0 (frame_Right.j0 kq x3_1 a0_0 a0_1 l0_2 a0_3 l0_4 = some r) ∧ Aside0 (kq ≤ k) ∧ Aside0 (wc.heap[gb115]? = some (.cells #[.int .i64 a0_0, .int .i64 a0_1, (.slice A0_2 l0_2.length c0_2), .string a0_3, (.slice A0_4 l0_4.length c0_4)] 24 (0, 0))) ∧ Aside0 (Below w.heap.size w wc))
  case first =>
    have H := HC2.out
    clear HC2
    by_cases c4 : a0_0 ≥ 1
    · rw [if_pos c4] at H
      have c4b0 : decide (1 ≤ a0_0) = true := decide_eq_true c4
      clear c4
      (first | rw [c4b0] | (simp only [i64_w, i32_w]; rw [c4b0]) | skip)
      have H' := Aside0.mk H
      clear H
      have hcz5_0 : w3.cell? ⟨gb115, 0, none⟩ = some (.int .i64 a0_0) := (blk_cell BK115.out 0).trans rfl
      have hcz5_1 : w3.cell? ⟨gb115, 1, none⟩ = some (.int .i64 a0_1) := (blk_cell BK115.out 1).trans rfl
      have hcz5_2 : w3.cell? ⟨gb115, 2, none⟩ = some (.slice A0_2 l0_2.length c0_2) := (blk_cell BK115.out 2).trans rfl
      have hcz5_3 : w3.cell? ⟨gb115, 3, none⟩ = some (.string a0_3) := (blk_cell BK115.out 3).trans rfl
      have hcz5_4 : w3.cell? ⟨gb115, 4, none⟩ = some (.slice A0_4 l0_4.length c0_4) := (blk_cell BK115.out 4).trans rfl
      have hfz5_0 := blk_frozen BK115.out 0
      have hfz5_1 := blk_frozen BK115.out 1
      have hfz5_2 := blk_frozen BK115.out 2
      have hfz5_3 := blk_frozen BK115.out 3
      have hfz5_4 := blk_frozen BK115.out 4
      go_wp2
      go_meet
      case rel => exact ⟨_, (decide (a0_0 ≤ 3)), (by first | rfl | (simp; done) | (simp [*]; done) | exact congrArg Value.bool (nonempty_l _) | (refine congrArg (Value.int _) ?_; first | omega | (unfold Go.RowKit.wrap64; omega))), H', ⟨by first | omega | exact Nat.le_refl _⟩, ⟨by (with_reducible repeat (first | refine blk_drewN ?_ _ | refine blk_drew ?_ | refine blk_alloc ?_ _)); exact BK115.out⟩, ⟨by repeat (first | (with_reducible first | exact HB.out | apply below_alloc | apply pw_below_drewN | apply below_drew1 | refine below_set ?_ GE115.out) | exact HB.out)⟩⟩
    · rw [if_neg c4] at H
      have c4b0 : decide (1 ≤ a0_0) = false := decide_eq_false c4
      clear c4
      (first | rw [c4b0] | (simp only [i64_w, i32_w]; rw [c4b0]) | skip)
      have H' := Aside0.mk H
      clear H
      have hcz6_0 : w3.cell? ⟨gb115, 0, none⟩ = some (.int .i64 a0_0) := (blk_cell BK115.out 0).trans rfl
      have hcz6_1 : w3.cell? ⟨gb115, 1, none⟩ = some (.int .i64 a0_1) := (blk_cell BK115.out 1).trans rfl
      have hcz6_2 : w3.cell? ⟨gb115, 2, none⟩ = some (.slice A0_2 l0_2.length c0_2) := (blk_cell BK115.out 2).trans rfl
      have hcz6_3 : w3.cell? ⟨gb115, 3, none⟩ = some (.string a0_3) := (blk_cell BK115.out 3).trans rfl
      have hcz6_4 : w3.cell? ⟨gb115, 4, none⟩ = some (.slice A0_4 l0_4.length c0_4) := (blk_cell BK115.out 4).trans rfl
      have hfz6_0 := blk_frozen BK115.out 0
      have hfz6_1 := blk_frozen BK115.out 1
      have hfz6_2 := blk_frozen BK115.out 2
      have hfz6_3 := blk_frozen BK115.out 3
      have hfz6_4 := blk_frozen BK115.out 4
      go_wp2
      go_meet
      case rel => exact ⟨_, (false), (by first | rfl | (simp; done) | (simp [*]; done) | exact congrArg Value.bool (nonempty_l _) | (refine congrArg (Value.int _) ?_; first | omega | (unfold Go.RowKit.wrap64; omega))), H', ⟨by first | omega | exact Nat.le_refl _⟩, ⟨by (with_reducible repeat (first | refine blk_drewN ?_ _ | refine blk_drew ?_ | refine blk_alloc ?_ _)); exact BK115.out⟩, ⟨by repeat (first | (with_reducible first | exact HB.out | apply below_alloc | apply pw_below_drewN | apply below_drew1 | refine below_set ?_ GE115.out) | exact HB.out)⟩⟩
  case rest =>
    clear HC2
    try clear c1
    try clear p2
    try clear c4
    try clear c4b0
    try clear p6
    try clear hcz5_0
    try clear hcz5_1
    try clear hcz5_2
    try clear hcz5_3
    try clear hcz5_4
    try clear hcz6_0
    try clear hcz6_1
    try clear hcz6_2
    try clear hcz6_3
    try clear hcz6_4
    try clear hfz5_0
    try clear hfz5_1
    try clear hfz5_2
    try clear hfz5_3
    try clear hfz5_4
    try clear hfz6_0
    try clear hfz6_1
    try clear hfz6_2
    try clear hfz6_3
    try clear hfz6_4
    obtain ⟨kq, x3_1, rfl, HA, HJ1, BK115, HB⟩ := hcut
    cases kq with
    | zero => exact absurd HA.out (by simp [frame_Right.j0])
    | succ kj1 =>
      have H := HA.out
      clear HA
      simp only [frame_Right.j0] at H
      have HC7 := Aside0.mk H
      clear H
      go_upto_block 0 with (fail)
      go_cut [] (fun wc => ∃ (kq : Nat), Aside0 (frame_Right.j4 kq a0_0 a0_1 l0_2 a0_3 l0_4 = some r) ∧ Aside0 (kq ≤ kj1) ∧ Aside0 (wc.heap[gb115]? = some (.cells #[.int .i64 a0_0, .int .i64 a0_1, (.slice A0_2 l0_2.length c0_2), .string a0_3, (.slice A0_4 l0_4.length c0_4)] 24 (0, 0))) ∧ Aside0 (Below w.heap.size w wc))
      case first =>
        have H := HC7.out
        clear HC7
        have HC8 := Aside0.mk H
        clear H
        go_upto_region 2 with (fail)
        go_cut [12] (fun v12 wc => ∃ (kq : Nat) (x12_7 : Bool), v12 = .bool x12_7 ∧ Aside0 (frame_Right.j1 kq x3_1 x12_7 a0_0 a0_1 l0_2 a0_3 l0_4 = some r) ∧ Aside0 (kq ≤ kj1) ∧ Aside0 (wc.heap[gb115]? = some (.cells #[.int .i64 a0_0, .int .i64 a0_1, (.slice A0_2 l0_2.length c0_2), .string a0_3, (.slice A0_4 l0_4.length c0_4)] 24 (0, 0))) ∧ Aside0 (Below w.heap.size w wc))
        case first =>
          have H := HC8.out
          clear HC8
          by_cases c9 : x3_1 = true
          · subst c9
            have H1 : (frame_Right.j1 kj1 true (decide ((l0_4.length : Int) > 0)) a0_0 a0_1 l0_2 a0_3 l0_4) = some r := by rw [if_pos rfl] at H; exact H
            clear H
            have H := H1
            clear H1
            have H' := Aside0.mk H
            clear H
            have hcz10_0 : wc.cell? ⟨gb115, 0, none⟩ = some (.int .i64 a0_0) := (blk_cell BK115.out 0).trans rfl
            have hcz10_1 : wc.cell? ⟨gb115, 1, none⟩ = some (.int .i64 a0_1) := (blk_cell BK115.out 1).trans rfl
            have hcz10_2 : wc.cell? ⟨gb115, 2, none⟩ = some (.slice A0_2 l0_2.length c0_2) := (blk_cell BK115.out 2).trans rfl
            have hcz10_3 : wc.cell? ⟨gb115, 3, none⟩ = some (.string a0_3) := (blk_cell BK115.out 3).trans rfl
            have hcz10_4 : wc.cell? ⟨gb115, 4, none⟩ = some (.slice A0_4 l0_4.length c0_4) := (blk_cell BK115.out 4).trans rfl
            have hfz10_0 := blk_frozen BK115.out 0
            have hfz10_1 := blk_frozen BK115.out 1
            have hfz10_2 := blk_frozen BK115.out 2
            have hfz10_3 := blk_frozen BK115.out 3
            have hfz10_4 := blk_frozen BK115.out 4
            go_wp2
            go_meet
            case rel => exact ⟨_, (decide ((l0_4.length : Int) > 0)), (by first | rfl | (simp; done) | (simp [*]; done) | exact congrArg Value.bool (nonempty_l _) | (refine congrArg (Value.int _) ?_; first | omega | (unfold Go.RowKit.wrap64; omega))), H', ⟨by have := HJ1.out; first | omega | exact Nat.le_refl _⟩, ⟨by (with_reducible repeat (first | refine blk_drewN ?_ _ | refine blk_drew ?_ | refine blk_alloc ?_ _)); exact BK115.out⟩, ⟨by repeat (first | (with_reducible first | exact HB.out | apply below_alloc | apply pw_below_drewN | apply below_drew1 | refine below_set ?_ GE115.out) | exact HB.out)⟩⟩
          · replace c9 := Bool.eq_false_iff.mpr c9
            subst c9
            have H1 : (frame_Right.j1 kj1 false false a0_0 a0_1 l0_2 a0_3 l0_4) = some r := by rw [if_neg (show ¬ (false = true) by decide)] at H; exact H
            clear H
            have H := H1
            clear H1
            have H' := Aside0.mk H
            clear H
            go_wp2
            go_meet
            case rel => exact ⟨_, (false), (by first | rfl | (simp; done) | (simp [*]; done) | exact congrArg Value.bool (nonempty_l _) | (refine congrArg (Value.int _) ?_; first | omega | (unfold Go.RowKit.wrap64; omega))), H', ⟨by have := HJ1.out; first | omega | exact Nat.le_refl _⟩, ⟨by (with_reducible repeat (first | refine blk_drewN ?_ _ | refine blk_drew ?_ | refine blk_alloc ?_ _)); exact BK115.out⟩, ⟨by repeat (first | (with_reducible first | exact HB.out | apply below_alloc | apply pw_below_drewN | apply below_drew1 | refine below_set ?_ GE115.out) | exact HB.out)⟩⟩
        case rest =>
          clear HC8
          try clear c1
          try clear p2
          try clear c4
          try clear c4b0
          try clear p6
          try clear c9
          try clear hcz10_0
          try clear hcz10_1
          try clear hcz10_2
          try clear hcz10_3
          try clear hcz10_4
          try clear hcz5_0
          try clear hcz5_1
          try clear hcz5_2
          try clear hcz5_3
          try clear hcz5_4
          try clear hcz6_0
          try clear hcz6_1
          try clear hcz6_2
          try clear hcz6_3
          try clear hcz6_4
          try clear hfz10_0
          try clear hfz10_1
          try clear hfz10_2
          try clear hfz10_3
          try clear hfz10_4
          try clear hfz5_0
          try clear hfz5_1
          try clear hfz5_2
          try clear hfz5_3
          try clear hfz5_4
          try clear hfz6_0
          try clear hfz6_1
          try clear hfz6_2
          try clear hfz6_3
          try clear hfz6_4
          try clear p2
          try clear p6
          obtain ⟨kq, x12_7, rfl, HA, HJ7, BK115, HB⟩ := hcut
          cases kq with
          | zero => exact absurd HA.out (by simp [frame_Right.j1])
          | succ kj7 =>
            have H := HA.out
            clear HA
            simp only [frame_Right.j1] at H
            by_cases c11 : x12_7 = true
            · subst c11
              have H1 : (some false) = some r := by rw [if_pos rfl] at H; exact H
              clear H
              have H := H1
              clear H1
              obtain rfl := Option.some.inj H
              go_wp2
              go_ret
              exact ⟨by first | rfl | (simp [errW_none, errW_some] <;> rfl) | (simp [*, errW_none, errW_some] <;> rfl), by repeat (first | (with_reducible first | exact HB.out | apply below_alloc | apply pw_below_drewN | apply below_drew1 | refine below_set ?_ GE115.out) | exact HB.out)⟩
            · replace c11 := Bool.eq_false_iff.mpr c11
              subst c11
              have H1 : (if x3_1 = true then (frame_Right.j2 kj7 false a0_0 a0_1 l0_2 a0_3 l0_4) else (frame_Right.j2 kj7 (decide ((l0_2.length : Int) > 0)) a0_0 a0_1 l0_2 a0_3 l0_4)) = some r := by rw [if_neg (show ¬ (false = true) by decide)] at H; exact H
              clear H
              have H := H1
              clear H1
              have HC12 := Aside0.mk H
              clear H
              go_upto_region 3 with (fail)
              go_cut [12] (fun v12 wc => ∃ (kq : Nat) (x12_11 : Bool), v12 = .bool x12_11 ∧ Aside0 (frame_Right.j2 kq x12_11 a0_0 a0_1 l0_2 a0_3 l0_4 = some r) ∧ Aside0 (kq ≤ kj7) ∧ Aside0 (wc.heap[gb115]? = some (.cells #[.int .i64 a0_0, .int .i64 a0_1, (.slice A0_2 l0_2.length c0_2), .string a0_3, (.slice A0_4 l0_4.length c0_4)] 24 (0, 0))) ∧ Aside0 (Below w.heap.size w wc))
              case first =>
                have H := HC12.out
                clear HC12
                by_cases c13 : x3_1 = true
                · subst c13
                  have H1 : (frame_Right.j2 kj7 false a0_0 a0_1 l0_2 a0_3 l0_4) = some r := by rw [if_pos rfl] at H; exact H
                  clear H
                  have H := H1
                  clear H1
                  have H' := Aside0.mk H
                  clear H
                  go_wp2
                  go_meet
                  case rel => exact ⟨_, (false), (by first | rfl | (simp; done) | (simp [*]; done) | exact congrArg Value.bool (nonempty_l _) | (refine congrArg (Value.int _) ?_; first | omega | (unfold Go.RowKit.wrap64; omega))), H', ⟨by have := HJ1.out; have := HJ7.out; first | omega | exact Nat.le_refl _⟩, ⟨by (with_reducible repeat (first | refine blk_drewN ?_ _ | refine blk_drew ?_ | refine blk_alloc ?_ _)); exact BK115.out⟩, ⟨by repeat (first | (with_reducible first | exact HB.out | apply below_alloc | apply pw_below_drewN | apply below_drew1 | refine below_set ?_ GE115.out) | exact HB.out)⟩⟩
                · replace c13 := Bool.eq_false_iff.mpr c13
                  subst c13
                  have H1 : (frame_Right.j2 kj7 (decide ((l0_2.length : Int) > 0)) a0_0 a0_1 l0_2 a0_3 l0_4) = some r := by rw [if_neg (show ¬ (false = true) by decide)] at H; exact H
                  clear H
                  have H := H1
                  clear H1
                  have H' := Aside0.mk H
                  clear H
                  have hcz14_0 : wc.cell? ⟨gb115, 0, none⟩ = some (.int .i64 a0_0) := (blk_cell BK115.out 0).trans rfl
                  have hcz14_1 : wc.cell? ⟨gb115, 1, none⟩ = some (.int .i64 a0_1) := (blk_cell BK115.out 1).trans rfl
                  have hcz14_2 : wc.cell? ⟨gb115, 2, none⟩ = some (.slice A0_2 l0_2.length c0_2) := (blk_cell BK115.out 2).trans rfl
                  have hcz14_3 : wc.cell? ⟨gb115, 3, none⟩ = some (.string a0_3) := (blk_cell BK115.out 3).trans rfl
                  have hcz14_4 : wc.cell? ⟨gb115, 4, none⟩ = some (.slice A0_4 l0_4.length c0_4) := (blk_cell BK115.out 4).trans rfl
                  have hfz14_0 := blk_frozen BK115.out 0
                  have hfz14_1 := blk_frozen BK115.out 1
                  have hfz14_2 := blk_frozen BK115.out 2
                  have hfz14_3 := blk_frozen BK115.out 3
                  have hfz14_4 := blk_frozen BK115.out 4
                  go_wp2
                  go_meet
                  case rel => exact ⟨_, (decide ((l0_2.length : Int) > 0)), (by first | rfl | (simp; done) | (simp [*]; done) | exact congrArg Value.bool (nonempty_l _) | (refine congrArg (Value.int _) ?_; first | omega | (unfold Go.RowKit.wrap64; omega))), H', ⟨by have := HJ1.out; have := HJ7.out; first | omega | exact Nat.le_refl _⟩, ⟨by (with_reducible repeat (first | refine blk_drewN ?_ _ | refine blk_drew ?_ | refine blk_alloc ?_ _)); exact BK115.out⟩, ⟨by repeat (first | (with_reducible first | exact HB.out | apply below_alloc | apply pw_below_drewN | apply below_drew1 | refine below_set ?_ GE115.out) | exact HB.out)⟩⟩
              case rest =>
                clear HC12
                try clear c1
                try clear p2
                try clear c4
                try clear c4b0
                try clear p6
                try clear c9
                try clear c11
                try clear c13
                try clear hcz10_0
                try clear hcz10_1
                try clear hcz10_2
                try clear hcz10_3
                try clear hcz10_4
                try clear hcz14_0
                try clear hcz14_1
                try clear hcz14_2
                try clear hcz14_3
                try clear hcz14_4
                try clear hcz5_0
                try clear hcz5_1
                try clear hcz5_2
                try clear hcz5_3
                try clear hcz5_4
                try clear hcz6_0
                try clear hcz6_1
                try clear hcz6_2
                try clear hcz6_3
                try clear hcz6_4
                try clear hfz10_0
                try clear hfz10_1
                try clear hfz10_2
                try clear hfz10_3
                try clear hfz10_4
                try clear hfz14_0
                try clear hfz14_1
                try clear hfz14_2
                try clear hfz14_3
                try clear hfz14_4
                try clear hfz5_0
                try clear hfz5_1
                try clear hfz5_2
                try clear hfz5_3
                try clear hfz5_4
                try clear hfz6_0
                try clear hfz6_1
                try clear hfz6_2
                try clear hfz6_3
                try clear hfz6_4
                try clear p2
                try clear p6
                obtain ⟨kq, x12_11, rfl, HA, HJ11, BK115, HB⟩ := hcut
                cases kq with
                | zero => exact absurd HA.out (by simp [frame_Right.j2])
                | succ kj11 =>
                  have H := HA.out
                  clear HA
                  simp only [frame_Right.j2] at H
                  by_cases c15 : x12_11 = true
                  · subst c15
                    have H1 : (some false) = some r := by rw [if_pos rfl] at H; exact H
                    clear H
                    have H := H1
                    clear H1
                    obtain rfl := Option.some.inj H
                    go_wp2
                    go_ret
                    exact ⟨by first | rfl | (simp [errW_none, errW_some] <;> rfl) | (simp [*, errW_none, errW_some] <;> rfl), by repeat (first | (with_reducible first | exact HB.out | apply below_alloc | apply pw_below_drewN | apply below_drew1 | refine below_set ?_ GE115.out) | exact HB.out)⟩
                  · replace c15 := Bool.eq_false_iff.mpr c15
                    subst c15
                    have H1 : (if a0_0 = 2 then (frame_Right.j3 kj11 false a0_0 a0_1 l0_2 a0_3 l0_4) else (frame_Right.j3 kj11 (a0_3.toList != ([] : List UInt8)) a0_0 a0_1 l0_2 a0_3 l0_4)) = some r := by rw [if_neg (show ¬ (false = true) by decide)] at H; exact H
                    clear H
                    have H := H1
                    clear H1
                    have HC16 := Aside0.mk H
                    clear H
                    go_upto_region 4 with (fail)
                    go_cut [12] (fun v12 wc => ∃ (kq : Nat) (x12_15 : Bool), v12 = .bool x12_15 ∧ Aside0 (frame_Right.j3 kq x12_15 a0_0 a0_1 l0_2 a0_3 l0_4 = some r) ∧ Aside0 (kq ≤ kj11) ∧ Aside0 (wc.heap[gb115]? = some (.cells #[.int .i64 a0_0, .int .i64 a0_1, (.slice A0_2 l0_2.length c0_2), .string a0_3, (.slice A0_4 l0_4.length c0_4)] 24 (0, 0))) ∧ Aside0 (Below w.heap.size w wc))
                    case first =>
                      have H := HC16.out
                      clear HC16
                      by_cases c17 : a0_0 = 2
                      · rw [if_pos c17] at H
                        have c17b0 : (a0_0 == 2) = true := beq_iff_eq.mpr c17
                        have c17b1 : (a0_0 != 2) = false := bne_eq_false_iff_eq.mpr c17
                        clear c17
                        (first | rw [c17b0] | (simp only [i64_w, i32_w]; rw [c17b0]) | skip)
                        have H' := Aside0.mk H
                        clear H
                        have hcz18_0 : wc.cell? ⟨gb115, 0, none⟩ = some (.int .i64 a0_0) := (blk_cell BK115.out 0).trans rfl
                        have hcz18_1 : wc.cell? ⟨gb115, 1, none⟩ = some (.int .i64 a0_1) := (blk_cell BK115.out 1).trans rfl
                        have hcz18_2 : wc.cell? ⟨gb115, 2, none⟩ = some (.slice A0_2 l0_2.length c0_2) := (blk_cell BK115.out 2).trans rfl
                        have hcz18_3 : wc.cell? ⟨gb115, 3, none⟩ = some (.string a0_3) := (blk_cell BK115.out 3).trans rfl
                        have hcz18_4 : wc.cell? ⟨gb115, 4, none⟩ = some (.slice A0_4 l0_4.length c0_4) := (blk_cell BK115.out 4).trans rfl
                        have hfz18_0 := blk_frozen BK115.out 0
                        have hfz18_1 := blk_frozen BK115.out 1
                        have hfz18_2 := blk_frozen BK115.out 2
                        have hfz18_3 := blk_frozen BK115.out 3
                        have hfz18_4 := blk_frozen BK115.out 4
                        go_wp2
                        go_meet
                        case rel => exact ⟨_, (false), (by first | rfl | (simp; done) | (simp [*]; done) | exact congrArg Value.bool (nonempty_l _) | (refine congrArg (Value.int _) ?_; first | omega | (unfold Go.RowKit.wrap64; omega))), H', ⟨by have := HJ1.out; have := HJ7.out; have := HJ11.out; first | omega | exact Nat.le_refl _⟩, ⟨by (with_reducible repeat (first | refine blk_drewN ?_ _ | refine blk_drew ?_ | refine blk_alloc ?_ _)); exact BK115.out⟩, ⟨by repeat (first | (with_reducible first | exact HB.out | apply below_alloc | apply pw_below_drewN | apply below_drew1 | refine below_set ?_ GE115.out) | exact HB.out)⟩⟩
                      · rw [if_neg c17] at H
                        have c17b0 : (a0_0 == 2) = false := beq_eq_false_iff_ne.mpr c17
                        have c17b1 : (a0_0 != 2) = true := bne_iff_ne.mpr c17
                        (first | rw [c17b0] | (simp only [i64_w, i32_w]; rw [c17b0]) | skip)
                        have H' := Aside0.mk H
                        clear H
                        have hcz19_0 : wc.cell? ⟨gb115, 0, none⟩ = some (.int .i64 a0_0) := (blk_cell BK115.out 0).trans rfl
                        have hcz19_1 : wc.cell? ⟨gb115, 1, none⟩ = some (.int .i64 a0_1) := (blk_cell BK115.out 1).trans rfl
                        have hcz19_2 : wc.cell? ⟨gb115, 2, none⟩ = some (.slice A0_2 l0_2.length c0_2) := (blk_cell BK115.out 2).trans rfl
                        have hcz19_3 : wc.cell? ⟨gb115, 3, none⟩ = some (.string a0_3) := (blk_cell BK115.out 3).trans rfl
                        have hcz19_4 : wc.cell? ⟨gb115, 4, none⟩ = some (.slice A0_4 l0_4.length c0_4) := (blk_cell BK115.out 4).trans rfl
                        have hfz19_0 := blk_frozen BK115.out 0
                        have hfz19_1 := blk_frozen BK115.out 1
                        have hfz19_2 := blk_frozen BK115.out 2
                        have hfz19_3 := blk_frozen BK115.out 3
                        have hfz19_4 := blk_frozen BK115.out 4
                        go_wp2
                        go_meet
                        case rel => exact ⟨_, ((a0_3.toList != ([] : List UInt8))), (by first | rfl | (simp; done) | (simp [*]; done) | exact congrArg Value.bool (nonempty_l _) | (refine congrArg (Value.int _) ?_; first | omega | (unfold Go.RowKit.wrap64; omega))), H', ⟨by have := HJ1.out; have := HJ7.out; have := HJ11.out; first | omega | exact Nat.le_refl _⟩, ⟨by (with_reducible repeat (first | refine blk_drewN ?_ _ | refine blk_drew ?_ | refine blk_alloc ?_ _)); exact BK115.out⟩, ⟨by repeat (first | (with_reducible first | exact HB.out | apply below_alloc | apply pw_below_drewN | apply below_drew1 | refine below_set ?_ GE115.out) | exact HB.out)⟩⟩
                    case rest =>
                      clear HC16
                      try clear c1
                      try clear p2
                      try clear c4
                      try clear c4b0
                      try clear p6
                      try clear c9
                      try clear c11
                      try clear c13
                      try clear c15
                      try clear c17
                      try clear c17b0
                      try clear c17b1
                      try clear hcz10_0
                      try clear hcz10_1
                      try clear hcz10_2
                      try clear hcz10_3
                      try clear hcz10_4
                      try clear hcz14_0
                      try clear hcz14_1
                      try clear hcz14_2
                      try clear hcz14_3
                      try clear hcz14_4
                      try clear hcz18_0
                      try clear hcz18_1
                      try clear hcz18_2
                      try clear hcz18_3
                      try clear hcz18_4
                      try clear hcz19_0
                      try clear hcz19_1
                      try clear hcz19_2
                      try clear hcz19_3
                      try clear hcz19_4
                      try clear hcz5_0
                      try clear hcz5_1
                      try clear hcz5_2
                      try clear hcz5_3
                      try clear hcz5_4
                      try clear hcz6_0
                      try clear hcz6_1
                      try clear hcz6_2
                      try clear hcz6_3
                      try clear hcz6_4
                      try clear hfz10_0
                      try clear hfz10_1
                      try clear hfz10_2
                      try clear hfz10_3
                      try clear hfz10_4
                      try clear hfz14_0
                      try clear hfz14_1
                      try clear hfz14_2
                      try clear hfz14_3
                      try clear hfz14_4
                      try clear hfz18_0
                      try clear hfz18_1
                      try clear hfz18_2
                      try clear hfz18_3
                      try clear hfz18_4
                      try clear hfz19_0
                      try clear hfz19_1
                      try clear hfz19_2
                      try clear hfz19_3
                      try clear hfz19_4
                      try clear hfz5_0
                      try clear hfz5_1
                      try clear hfz5_2
                      try clear hfz5_3
                      try clear hfz5_4
                      try clear hfz6_0
                      try clear hfz6_1
                      try clear hfz6_2
                      try clear hfz6_3
                      try clear hfz6_4
                      try clear p2
                      try clear p6
                      obtain ⟨kq, x12_15, rfl, HA, HJ15, BK115, HB⟩ := hcut
                      cases kq with
                      | zero => exact absurd HA.out (by simp [frame_Right.j3])
                      | succ kj15 =>
                        have H := HA.out
                        clear HA
                        simp only [frame_Right.j3] at H
                        by_cases c20 : x12_15 = true
                        · subst c20
                          have H1 : (some false) = some r := by rw [if_pos rfl] at H; exact H
                          clear H
                          have H := H1
                          clear H1
                          obtain rfl := Option.some.inj H
                          go_wp2
                          go_ret
                          exact ⟨by first | rfl | (simp [errW_none, errW_some] <;> rfl) | (simp [*, errW_none, errW_some] <;> rfl), by repeat (first | (with_reducible first | exact HB.out | apply below_alloc | apply pw_below_drewN | apply below_drew1 | refine below_set ?_ GE115.out) | exact HB.out)⟩
                        · replace c20 := Bool.eq_false_iff.mpr c20
                          subst c20
                          have H1 : (if a0_0 = 5 then (frame_Right.j4 kj15 a0_0 a0_1 l0_2 a0_3 l0_4) else (if a0_1 = 0 then (frame_Right.j4 kj15 a0_0 a0_1 l0_2 a0_3 l0_4) else (some false))) = some r := by rw [if_neg (show ¬ (false = true) by decide)] at H; exact H
                          clear H
                          have H := H1
                          clear H1
                          by_cases c21 : a0_0 = 5
                          · rw [if_pos c21] at H
                            have c21b0 : (a0_0 == 5) = true := beq_iff_eq.mpr c21
                            have c21b1 : (a0_0 != 5) = false := bne_eq_false_iff_eq.mpr c21
                            clear c21
                            have H' := Aside0.mk H
                            clear H
                            have hcz22_0 : wc.cell? ⟨gb115, 0, none⟩ = some (.int .i64 a0_0) := (blk_cell BK115.out 0).trans rfl
                            have hcz22_1 : wc.cell? ⟨gb115, 1, none⟩ = some (.int .i64 a0_1) := (blk_cell BK115.out 1).trans rfl
                            have hcz22_2 : wc.cell? ⟨gb115, 2, none⟩ = some (.slice A0_2 l0_2.length c0_2) := (blk_cell BK115.out 2).trans rfl
                            have hcz22_3 : wc.cell? ⟨gb115, 3, none⟩ = some (.string a0_3) := (blk_cell BK115.out 3).trans rfl
                            have hcz22_4 : wc.cell? ⟨gb115, 4, none⟩ = some (.slice A0_4 l0_4.length c0_4) := (blk_cell BK115.out 4).trans rfl
                            have hfz22_0 := blk_frozen BK115.out 0
                            have hfz22_1 := blk_frozen BK115.out 1
                            have hfz22_2 := blk_frozen BK115.out 2
                            have hfz22_3 := blk_frozen BK115.out 3
                            have hfz22_4 := blk_frozen BK115.out 4
                            go_wp2
                            go_meet
                            case rel => exact ⟨_, H', ⟨by have := HJ1.out; have := HJ7.out; have := HJ11.out; have := HJ15.out; first | omega | exact Nat.le_refl _⟩, ⟨by (with_reducible repeat (first | refine blk_drewN ?_ _ | refine blk_drew ?_ | refine blk_alloc ?_ _)); exact BK115.out⟩, ⟨by repeat (first | (with_reducible first | exact HB.out | apply below_alloc | apply pw_below_drewN | apply below_drew1 | refine below_set ?_ GE115.out) | exact HB.out)⟩⟩
                          · rw [if_neg c21] at H
                            have c21b0 : (a0_0 == 5) = false := beq_eq_false_iff_ne.mpr c21
                            have c21b1 : (a0_0 != 5) = true := bne_iff_ne.mpr c21
                            by_cases c23 : a0_1 = 0
                            · rw [if_pos c23] at H
                              have c23b0 : (a0_1 == 0) = true := beq_iff_eq.mpr c23
                              have c23b1 : (a0_1 != 0) = false := bne_eq_false_iff_eq.mpr c23
                              clear c23
                              have H' := Aside0.mk H
                              clear H
                              have hcz24_0 : wc.cell? ⟨gb115, 0, none⟩ = some (.int .i64 a0_0) := (blk_cell BK115.out 0).trans rfl
                              have hcz24_1 : wc.cell? ⟨gb115, 1, none⟩ = some (.int .i64 a0_1) := (blk_cell BK115.out 1).trans rfl
                              have hcz24_2 : wc.cell? ⟨gb115, 2, none⟩ = some (.slice A0_2 l0_2.length c0_2) := (blk_cell BK115.out 2).trans rfl
                              have hcz24_3 : wc.cell? ⟨gb115, 3, none⟩ = some (.string a0_3) := (blk_cell BK115.out 3).trans rfl
                              have hcz24_4 : wc.cell? ⟨gb115, 4, none⟩ = some (.slice A0_4 l0_4.length c0_4) := (blk_cell BK115.out 4).trans rfl
                              have hfz24_0 := blk_frozen BK115.out 0
                              have hfz24_1 := blk_frozen BK115.out 1
                              have hfz24_2 := blk_frozen BK115.out 2
                              have hfz24_3 := blk_frozen BK115.out 3
                              have hfz24_4 := blk_frozen BK115.out 4
                              go_wp2
                              go_meet
                              case rel => exact ⟨_, H', ⟨by have := HJ1.out; have := HJ7.out; have := HJ11.out; have := HJ15.out; first | omega | exact Nat.le_refl _⟩, ⟨by (with_reducible repeat (first | refine blk_drewN ?_ _ | refine blk_drew ?_ | refine blk_alloc ?_ _)); exact BK115.out⟩, ⟨by repeat (first | (with_reducible first | exact HB.out | apply below_alloc | apply pw_below_drewN | apply below_drew1 | refine below_set ?_ GE115.out) | exact HB.out)⟩⟩
                            · rw [if_neg c23] at H
                              have c23b0 : (a0_1 == 0) = false := beq_eq_false_iff_ne.mpr c23
                              have c23b1 : (a0_1 != 0) = true := bne_iff_ne.mpr c23
                              obtain rfl := Option.some.inj H
                              have hcz25_0 : wc.cell? ⟨gb115, 0, none⟩ = some (.int .i64 a0_0) := (blk_cell BK115.out 0).trans rfl
                              have hcz25_1 : wc.cell? ⟨gb115, 1, none⟩ = some (.int .i64 a0_1) := (blk_cell BK115.out 1).trans rfl
                              have hcz25_2 : wc.cell? ⟨gb115, 2, none⟩ = some (.slice A0_2 l0_2.length c0_2) := (blk_cell BK115.out 2).trans rfl
                              have hcz25_3 : wc.cell? ⟨gb115, 3, none⟩ = some (.string a0_3) := (blk_cell BK115.out 3).trans rfl
                              have hcz25_4 : wc.cell? ⟨gb115, 4, none⟩ = some (.slice A0_4 l0_4.length c0_4) := (blk_cell BK115.out 4).trans rfl
                              have hfz25_0 := blk_frozen BK115.out 0
                              have hfz25_1 := blk_frozen BK115.out 1
                              have hfz25_2 := blk_frozen BK115.out 2
                              have hfz25_3 := blk_frozen BK115.out 3
                              have hfz25_4 := blk_frozen BK115.out 4
                              go_wp2
                              go_ret
                              exact ⟨by first | rfl | (simp [errW_none, errW_some] <;> rfl) | (simp [*, errW_none, errW_some] <;> rfl), by repeat (first | (with_reducible first | exact HB.out | apply below_alloc | apply pw_below_drewN | apply below_drew1 | refine below_set ?_ GE115.out) | exact HB.out)⟩
      case rest =>
        clear HC7
        try clear c1
        try clear c2
        try clear p2
        try clear c4
        try clear c4b0
        try clear p6
        try clear c9
        try clear c11
        try clear c13
        try clear c15
        try clear c17
        try clear c17b0
        try clear c17b1
        try clear c20
        try clear c21
        try clear c21b0
        try clear c21b1
        try clear c23
        try clear c23b0
        try clear c23b1
        try clear hcz10_0
        try clear hcz10_1
        try clear hcz10_2
        try clear hcz10_3
        try clear hcz10_4
        try clear hcz14_0
        try clear hcz14_1
        try clear hcz14_2
        try clear hcz14_3
        try clear hcz14_4
        try clear hcz18_0
        try clear hcz18_1
        try clear hcz18_2
        try clear hcz18_3
        try clear hcz18_4
        try clear hcz19_0
        try clear hcz19_1
        try clear hcz19_2
        try clear hcz19_3
        try clear hcz19_4
        try clear hcz22_0
        try clear hcz22_1
        try clear hcz22_2
        try clear hcz22_3
        try clear hcz22_4
        try clear hcz24_0
        try clear hcz24_1
        try clear hcz24_2
        try clear hcz24_3
        try clear hcz24_4
        try clear hcz25_0
        try clear hcz25_1
        try clear hcz25_2
        try clear hcz25_3
        try clear hcz25_4
        try clear hcz5_0
        try clear hcz5_1
        try clear hcz5_2
        try clear hcz5_3
        try clear hcz5_4
        try clear hcz6_0
        try clear hcz6_1
        try clear hcz6_2
        try clear hcz6_3
        try clear hcz6_4
        try clear hfz10_0
        try clear hfz10_1
        try clear hfz10_2
        try clear hfz10_3
        try clear hfz10_4
        try clear hfz14_0
        try clear hfz14_1
        try clear hfz14_2
        try clear hfz14_3
        try clear hfz14_4
        try clear hfz18_0
        try clear hfz18_1
        try clear hfz18_2
        try clear hfz18_3
        try clear hfz18_4
        try clear hfz19_0
        try clear hfz19_1
        try clear hfz19_2
        try clear hfz19_3
        try clear hfz19_4
        try clear hfz22_0
        try clear hfz22_1
        try clear hfz22_2
        try clear hfz22_3
        try clear hfz22_4
        try clear hfz24_0
        try clear hfz24_1
        try clear hfz24_2
        try clear hfz24_3
        try clear hfz24_4
        try clear hfz25_0
        try clear hfz25_1
        try clear hfz25_2
        try clear hfz25_3
        try clear hfz25_4
        try clear hfz5_0
        try clear hfz5_1
        try clear hfz5_2
        try clear hfz5_3
        try clear hfz5_4
        try clear hfz6_0
        try clear hfz6_1
        try clear hfz6_2
        try clear hfz6_3
        try clear hfz6_4
        try clear p2
        try clear p6
        obtain ⟨kq, HA, HJ6, BK115, HB⟩ := hcut
        cases kq with
        | zero => exact absurd HA.out (by simp [frame_Right.j4])
        | succ kj6 =>
          have H := HA.out
          clear HA
          simp only [frame_Right.j4] at H
          by_cases c26 : a0_0 = 1
          · rw [if_pos c26] at H
            have c26b0 : (a0_0 == 1) = true := beq_iff_eq.mpr c26
            have c26b1 : (a0_0 != 1) = false := bne_eq_false_iff_eq.mpr c26
            clear c26
            replace H := Option.bind_eq_some_iff.mp H
            obtain ⟨t116, A270, H⟩ := H
            replace H : (some t116) = some r := H
            have A27 := Aside0.mk A270
            clear A270
            obtain rfl := Option.some.inj H
            have hcz28_0 : wc.cell? ⟨gb115, 0, none⟩ = some (.int .i64 a0_0) := (blk_cell BK115.out 0).trans rfl
            have hcz28_1 : wc.cell? ⟨gb115, 1, none⟩ = some (.int .i64 a0_1) := (blk_cell BK115.out 1).trans rfl
            have hcz28_2 : wc.cell? ⟨gb115, 2, none⟩ = some (.slice A0_2 l0_2.length c0_2) := (blk_cell BK115.out 2).trans rfl
            have hcz28_3 : wc.cell? ⟨gb115, 3, none⟩ = some (.string a0_3) := (blk_cell BK115.out 3).trans rfl
            have hcz28_4 : wc.cell? ⟨gb115, 4, none⟩ = some (.slice A0_4 l0_4.length c0_4) := (blk_cell BK115.out 4).trans rfl
            have hfz28_0 := blk_frozen BK115.out 0
            have hfz28_1 := blk_frozen BK115.out 1
            have hfz28_2 := blk_frozen BK115.out 2
            have hfz28_3 := blk_frozen BK115.out 3
            have hfz28_4 := blk_frozen BK115.out 4
            go_wp2_with (first | ((with_reducible refine gate_callee (f := 25) rfl ?_); refine goesL_ (some 50) rfl rfl Try.func25 (by kernel_rfl) rfl #[.slice A0_2 l0_2.length c0_2] rfl (by (try simp only [List.map_toArray, List.map_cons, List.map_nil]); first | done | rfl | (simp only [List.length_drop, List.length_take]; rfl)) ?_; (with_reducible refine (frame_ids.calls kj6 _ _ l0_2 t116 _ ?side1 ?side2 A27.out).mono ?_); (case side1 => repeat (first | exact (Kd.C_below HR0_2.out HB.out) | (with_reducible refine Kd.C_alloc ?_ _) | (with_reducible refine Kd.C_drewN ?_ _) | (with_reducible refine Kd.C_drew ?_))); (case side2 => exact HC0_2.out); rintro e w' ⟨rfl, ⟨nd, rfl⟩⟩; refine ⟨_, rfl, ?_⟩))
            go_ret
            exact ⟨by first | rfl | (simp [errW_none, errW_some] <;> rfl) | (simp [*, errW_none, errW_some] <;> rfl), by repeat (first | (with_reducible first | exact HB.out | apply below_alloc | apply pw_below_drewN | apply below_drew1 | refine below_set ?_ GE115.out) | exact HB.out)⟩
          · rw [if_neg c26] at H
            have c26b0 : (a0_0 == 1) = false := beq_eq_false_iff_ne.mpr c26
            have c26b1 : (a0_0 != 1) = true := bne_iff_ne.mpr c26
            by_cases c29 : a0_0 = 2
            · rw [if_pos c29] at H
              have c29b0 : (a0_0 == 2) = true := beq_iff_eq.mpr c29
              have c29b1 : (a0_0 != 2) = false := bne_eq_false_iff_eq.mpr c29
              clear c29
              replace H := Option.bind_eq_some_iff.mp H
              obtain ⟨t117, A300, H⟩ := H
              replace H : (if t117 = true then (if a0_3.toList = ([] : List UInt8) then (some false) else (some (decide ((a0_3.size : Int) ≤ 512)))) else (some false)) = some r := H
              have A30 := Aside0.mk A300
              clear A300
              by_cases c31 : t117 = true
              · subst c31
                have H1 : (if a0_3.toList = ([] : List UInt8) then (some false) else (some (decide ((a0_3.size : Int) ≤ 512)))) = some r := by rw [if_pos rfl] at H; exact H
                clear H
                have H := H1
                clear H1
                by_cases c32 : a0_3.toList = ([] : List UInt8)
                · rw [if_pos c32] at H
                  have c32b0 : (a0_3.toList == ([] : List UInt8)) = true := beq_iff_eq.mpr c32
                  have c32b1 : (a0_3.toList != ([] : List UInt8)) = false := bne_eq_false_iff_eq.mpr c32
                  clear c32
                  obtain rfl := Option.some.inj H
                  have hcz33_0 : wc.cell? ⟨gb115, 0, none⟩ = some (.int .i64 a0_0) := (blk_cell BK115.out 0).trans rfl
                  have hcz33_1 : wc.cell? ⟨gb115, 1, none⟩ = some (.int .i64 a0_1) := (blk_cell BK115.out 1).trans rfl
                  have hcz33_2 : wc.cell? ⟨gb115, 2, none⟩ = some (.slice A0_2 l0_2.length c0_2) := (blk_cell BK115.out 2).trans rfl
                  have hcz33_3 : wc.cell? ⟨gb115, 3, none⟩ = some (.string a0_3) := (blk_cell BK115.out 3).trans rfl
                  have hcz33_4 : wc.cell? ⟨gb115, 4, none⟩ = some (.slice A0_4 l0_4.length c0_4) := (blk_cell BK115.out 4).trans rfl
                  have hfz33_0 := blk_frozen BK115.out 0
                  have hfz33_1 := blk_frozen BK115.out 1
                  have hfz33_2 := blk_frozen BK115.out 2
                  have hfz33_3 := blk_frozen BK115.out 3
                  have hfz33_4 := blk_frozen BK115.out 4
                  go_wp2_with (first | ((with_reducible refine gate_callee (f := 25) rfl ?_); refine goesL_ (some 55) rfl rfl Try.func25 (by kernel_rfl) rfl #[.slice A0_2 l0_2.length c0_2] rfl (by (try simp only [List.map_toArray, List.map_cons, List.map_nil]); first | done | rfl | (simp only [List.length_drop, List.length_take]; rfl)) ?_; (with_reducible refine (frame_ids.calls kj6 _ _ l0_2 true _ ?side1 ?side2 A30.out).mono ?_); (case side1 => repeat (first | exact (Kd.C_below HR0_2.out HB.out) | (with_reducible refine Kd.C_alloc ?_ _) | (with_reducible refine Kd.C_drewN ?_ _) | (with_reducible refine Kd.C_drew ?_))); (case side2 => exact HC0_2.out); rintro e w' ⟨rfl, ⟨nd, rfl⟩⟩; refine ⟨_, rfl, ?_⟩))
                  go_ret
                  exact ⟨by first | rfl | (simp [errW_none, errW_some] <;> rfl) | (simp [*, errW_none, errW_some] <;> rfl), by repeat (first | (with_reducible first | exact HB.out | apply below_alloc | apply pw_below_drewN | apply below_drew1 | refine below_set ?_ GE115.out) | exact HB.out)⟩
                · rw [if_neg c32] at H
                  have c32b0 : (a0_3.toList == ([] : List UInt8)) = false := beq_eq_false_iff_ne.mpr c32
                  have c32b1 : (a0_3.toList != ([] : List UInt8)) = true := bne_iff_ne.mpr c32
                  obtain rfl := Option.some.inj H
                  have hcz34_0 : wc.cell? ⟨gb115, 0, none⟩ = some (.int .i64 a0_0) := (blk_cell BK115.out 0).trans rfl
                  have hcz34_1 : wc.cell? ⟨gb115, 1, none⟩ = some (.int .i64 a0_1) := (blk_cell BK115.out 1).trans rfl
                  have hcz34_2 : wc.cell? ⟨gb115, 2, none⟩ = some (.slice A0_2 l0_2.length c0_2) := (blk_cell BK115.out 2).trans rfl
                  have hcz34_3 : wc.cell? ⟨gb115, 3, none⟩ = some (.string a0_3) := (blk_cell BK115.out 3).trans rfl
                  have hcz34_4 : wc.cell? ⟨gb115, 4, none⟩ = some (.slice A0_4 l0_4.length c0_4) := (blk_cell BK115.out 4).trans rfl
                  have hfz34_0 := blk_frozen BK115.out 0
                  have hfz34_1 := blk_frozen BK115.out 1
                  have hfz34_2 := blk_frozen BK115.out 2
                  have hfz34_3 := blk_frozen BK115.out 3
                  have hfz34_4 := blk_frozen BK115.out 4
                  go_wp2_with (first | ((with_reducible refine gate_callee (f := 25) rfl ?_); refine goesL_ (some 55) rfl rfl Try.func25 (by kernel_rfl) rfl #[.slice A0_2 l0_2.length c0_2] rfl (by (try simp only [List.map_toArray, List.map_cons, List.map_nil]); first | done | rfl | (simp only [List.length_drop, List.length_take]; rfl)) ?_; (with_reducible refine (frame_ids.calls kj6 _ _ l0_2 true _ ?side1 ?side2 A30.out).mono ?_); (case side1 => repeat (first | exact (Kd.C_below HR0_2.out HB.out) | (with_reducible refine Kd.C_alloc ?_ _) | (with_reducible refine Kd.C_drewN ?_ _) | (with_reducible refine Kd.C_drew ?_))); (case side2 => exact HC0_2.out); rintro e w' ⟨rfl, ⟨nd, rfl⟩⟩; refine ⟨_, rfl, ?_⟩))
                  go_ret
                  exact ⟨by first | rfl | (simp [errW_none, errW_some] <;> rfl) | (simp [*, errW_none, errW_some] <;> rfl), by repeat (first | (with_reducible first | exact HB.out | apply below_alloc | apply pw_below_drewN | apply below_drew1 | refine below_set ?_ GE115.out) | exact HB.out)⟩
              · replace c31 := Bool.eq_false_iff.mpr c31
                subst c31
                have H1 : (some false) = some r := by rw [if_neg (show ¬ (false = true) by decide)] at H; exact H
                clear H
                have H := H1
                clear H1
                obtain rfl := Option.some.inj H
                have hcz35_0 : wc.cell? ⟨gb115, 0, none⟩ = some (.int .i64 a0_0) := (blk_cell BK115.out 0).trans rfl
                have hcz35_1 : wc.cell? ⟨gb115, 1, none⟩ = some (.int .i64 a0_1) := (blk_cell BK115.out 1).trans rfl
                have hcz35_2 : wc.cell? ⟨gb115, 2, none⟩ = some (.slice A0_2 l0_2.length c0_2) := (blk_cell BK115.out 2).trans rfl
                have hcz35_3 : wc.cell? ⟨gb115, 3, none⟩ = some (.string a0_3) := (blk_cell BK115.out 3).trans rfl
                have hcz35_4 : wc.cell? ⟨gb115, 4, none⟩ = some (.slice A0_4 l0_4.length c0_4) := (blk_cell BK115.out 4).trans rfl
                have hfz35_0 := blk_frozen BK115.out 0
                have hfz35_1 := blk_frozen BK115.out 1
                have hfz35_2 := blk_frozen BK115.out 2
                have hfz35_3 := blk_frozen BK115.out 3
                have hfz35_4 := blk_frozen BK115.out 4
                go_wp2_with (first | ((with_reducible refine gate_callee (f := 25) rfl ?_); refine goesL_ (some 55) rfl rfl Try.func25 (by kernel_rfl) rfl #[.slice A0_2 l0_2.length c0_2] rfl (by (try simp only [List.map_toArray, List.map_cons, List.map_nil]); first | done | rfl | (simp only [List.length_drop, List.length_take]; rfl)) ?_; (with_reducible refine (frame_ids.calls kj6 _ _ l0_2 false _ ?side1 ?side2 A30.out).mono ?_); (case side1 => repeat (first | exact (Kd.C_below HR0_2.out HB.out) | (with_reducible refine Kd.C_alloc ?_ _) | (with_reducible refine Kd.C_drewN ?_ _) | (with_reducible refine Kd.C_drew ?_))); (case side2 => exact HC0_2.out); rintro e w' ⟨rfl, ⟨nd, rfl⟩⟩; refine ⟨_, rfl, ?_⟩))
                go_ret
                exact ⟨by first | rfl | (simp [errW_none, errW_some] <;> rfl) | (simp [*, errW_none, errW_some] <;> rfl), by repeat (first | (with_reducible first | exact HB.out | apply below_alloc | apply pw_below_drewN | apply below_drew1 | refine below_set ?_ GE115.out) | exact HB.out)⟩
            · rw [if_neg c29] at H
              have c29b0 : (a0_0 == 2) = false := beq_eq_false_iff_ne.mpr c29
              have c29b1 : (a0_0 != 2) = true := bne_iff_ne.mpr c29
              by_cases c36 : a0_0 = 3
              · rw [if_pos c36] at H
                have c36b0 : (a0_0 == 3) = true := beq_iff_eq.mpr c36
                have c36b1 : (a0_0 != 3) = false := bne_eq_false_iff_eq.mpr c36
                clear c36
                replace H := Option.bind_eq_some_iff.mp H
                obtain ⟨t118, A370, H⟩ := H
                replace H : (if t118 = true then (some (decide ((l0_2.length : Int) > 0))) else (some false)) = some r := H
                have A37 := Aside0.mk A370
                clear A370
                by_cases c38 : t118 = true
                · subst c38
                  have H1 : (some (decide ((l0_2.length : Int) > 0))) = some r := by rw [if_pos rfl] at H; exact H
                  clear H
                  have H := H1
                  clear H1
                  obtain rfl := Option.some.inj H
                  have hcz39_0 : wc.cell? ⟨gb115, 0, none⟩ = some (.int .i64 a0_0) := (blk_cell BK115.out 0).trans rfl
                  have hcz39_1 : wc.cell? ⟨gb115, 1, none⟩ = some (.int .i64 a0_1) := (blk_cell BK115.out 1).trans rfl
                  have hcz39_2 : wc.cell? ⟨gb115, 2, none⟩ = some (.slice A0_2 l0_2.length c0_2) := (blk_cell BK115.out 2).trans rfl
                  have hcz39_3 : wc.cell? ⟨gb115, 3, none⟩ = some (.string a0_3) := (blk_cell BK115.out 3).trans rfl
                  have hcz39_4 : wc.cell? ⟨gb115, 4, none⟩ = some (.slice A0_4 l0_4.length c0_4) := (blk_cell BK115.out 4).trans rfl
                  have hfz39_0 := blk_frozen BK115.out 0
                  have hfz39_1 := blk_frozen BK115.out 1
                  have hfz39_2 := blk_frozen BK115.out 2
                  have hfz39_3 := blk_frozen BK115.out 3
                  have hfz39_4 := blk_frozen BK115.out 4
                  go_wp2_with (first | ((with_reducible refine gate_callee (f := 25) rfl ?_); refine goesL_ (some 71) rfl rfl Try.func25 (by kernel_rfl) rfl #[.slice A0_2 l0_2.length c0_2] rfl (by (try simp only [List.map_toArray, List.map_cons, List.map_nil]); first | done | rfl | (simp only [List.length_drop, List.length_take]; rfl)) ?_; (with_reducible refine (frame_ids.calls kj6 _ _ l0_2 true _ ?side1 ?side2 A37.out).mono ?_); (case side1 => repeat (first | exact (Kd.C_below HR0_2.out HB.out) | (with_reducible refine Kd.C_alloc ?_ _) | (with_reducible refine Kd.C_drewN ?_ _) | (with_reducible refine Kd.C_drew ?_))); (case side2 => exact HC0_2.out); rintro e w' ⟨rfl, ⟨nd, rfl⟩⟩; refine ⟨_, rfl, ?_⟩))
                  go_ret
                  exact ⟨by first | rfl | (simp [errW_none, errW_some] <;> rfl) | (simp [*, errW_none, errW_some] <;> rfl), by repeat (first | (with_reducible first | exact HB.out | apply below_alloc | apply pw_below_drewN | apply below_drew1 | refine below_set ?_ GE115.out) | exact HB.out)⟩
                · replace c38 := Bool.eq_false_iff.mpr c38
                  subst c38
                  have H1 : (some false) = some r := by rw [if_neg (show ¬ (false = true) by decide)] at H; exact H
                  clear H
                  have H := H1
                  clear H1
                  obtain rfl := Option.some.inj H
                  have hcz40_0 : wc.cell? ⟨gb115, 0, none⟩ = some (.int .i64 a0_0) := (blk_cell BK115.out 0).trans rfl
                  have hcz40_1 : wc.cell? ⟨gb115, 1, none⟩ = some (.int .i64 a0_1) := (blk_cell BK115.out 1).trans rfl
                  have hcz40_2 : wc.cell? ⟨gb115, 2, none⟩ = some (.slice A0_2 l0_2.length c0_2) := (blk_cell BK115.out 2).trans rfl
                  have hcz40_3 : wc.cell? ⟨gb115, 3, none⟩ = some (.string a0_3) := (blk_cell BK115.out 3).trans rfl
                  have hcz40_4 : wc.cell? ⟨gb115, 4, none⟩ = some (.slice A0_4 l0_4.length c0_4) := (blk_cell BK115.out 4).trans rfl
                  have hfz40_0 := blk_frozen BK115.out 0
                  have hfz40_1 := blk_frozen BK115.out 1
                  have hfz40_2 := blk_frozen BK115.out 2
                  have hfz40_3 := blk_frozen BK115.out 3
                  have hfz40_4 := blk_frozen BK115.out 4
                  go_wp2_with (first | ((with_reducible refine gate_callee (f := 25) rfl ?_); refine goesL_ (some 71) rfl rfl Try.func25 (by kernel_rfl) rfl #[.slice A0_2 l0_2.length c0_2] rfl (by (try simp only [List.map_toArray, List.map_cons, List.map_nil]); first | done | rfl | (simp only [List.length_drop, List.length_take]; rfl)) ?_; (with_reducible refine (frame_ids.calls kj6 _ _ l0_2 false _ ?side1 ?side2 A37.out).mono ?_); (case side1 => repeat (first | exact (Kd.C_below HR0_2.out HB.out) | (with_reducible refine Kd.C_alloc ?_ _) | (with_reducible refine Kd.C_drewN ?_ _) | (with_reducible refine Kd.C_drew ?_))); (case side2 => exact HC0_2.out); rintro e w' ⟨rfl, ⟨nd, rfl⟩⟩; refine ⟨_, rfl, ?_⟩))
                  go_ret
                  exact ⟨by first | rfl | (simp [errW_none, errW_some] <;> rfl) | (simp [*, errW_none, errW_some] <;> rfl), by repeat (first | (with_reducible first | exact HB.out | apply below_alloc | apply pw_below_drewN | apply below_drew1 | refine below_set ?_ GE115.out) | exact HB.out)⟩
              · rw [if_neg c36] at H
                have c36b0 : (a0_0 == 3) = false := beq_eq_false_iff_ne.mpr c36
                have c36b1 : (a0_0 != 3) = true := bne_iff_ne.mpr c36
                by_cases c41 : a0_0 = 4
                · rw [if_pos c41] at H
                  have c41b0 : (a0_0 == 4) = true := beq_iff_eq.mpr c41
                  have c41b1 : (a0_0 != 4) = false := bne_eq_false_iff_eq.mpr c41
                  clear c41
                  replace H := Option.bind_eq_some_iff.mp H
                  obtain ⟨t119, A420, H⟩ := H
                  replace H : (some t119) = some r := H
                  have A42 := Aside0.mk A420
                  clear A420
                  obtain rfl := Option.some.inj H
                  have hcz43_0 : wc.cell? ⟨gb115, 0, none⟩ = some (.int .i64 a0_0) := (blk_cell BK115.out 0).trans rfl
                  have hcz43_1 : wc.cell? ⟨gb115, 1, none⟩ = some (.int .i64 a0_1) := (blk_cell BK115.out 1).trans rfl
                  have hcz43_2 : wc.cell? ⟨gb115, 2, none⟩ = some (.slice A0_2 l0_2.length c0_2) := (blk_cell BK115.out 2).trans rfl
                  have hcz43_3 : wc.cell? ⟨gb115, 3, none⟩ = some (.string a0_3) := (blk_cell BK115.out 3).trans rfl
                  have hcz43_4 : wc.cell? ⟨gb115, 4, none⟩ = some (.slice A0_4 l0_4.length c0_4) := (blk_cell BK115.out 4).trans rfl
                  have hfz43_0 := blk_frozen BK115.out 0
                  have hfz43_1 := blk_frozen BK115.out 1
                  have hfz43_2 := blk_frozen BK115.out 2
                  have hfz43_3 := blk_frozen BK115.out 3
                  have hfz43_4 := blk_frozen BK115.out 4
                  go_wp2_with (first | ((with_reducible refine gate_callee (f := 26) rfl ?_); refine goesL_ (some 82) rfl rfl Try.func26 (by kernel_rfl) rfl #[.slice A0_4 l0_4.length c0_4, .int .i64 16] rfl (by (try simp only [List.map_toArray, List.map_cons, List.map_nil]); first | done | rfl | (simp only [List.length_drop, List.length_take]; rfl)) ?_; (with_reducible refine (frame_texts.calls kj6 _ _ l0_4 16 t119 _ ?side1 ?side2 A42.out).mono ?_); (case side1 => repeat (first | exact (Kd.C_below HR0_4.out HB.out) | (with_reducible refine Kd.C_alloc ?_ _) | (with_reducible refine Kd.C_drewN ?_ _) | (with_reducible refine Kd.C_drew ?_))); (case side2 => exact HC0_4.out); rintro e w' ⟨rfl, ⟨nd, rfl⟩⟩; refine ⟨_, rfl, ?_⟩))
                  go_ret
                  exact ⟨by first | rfl | (simp [errW_none, errW_some] <;> rfl) | (simp [*, errW_none, errW_some] <;> rfl), by repeat (first | (with_reducible first | exact HB.out | apply below_alloc | apply pw_below_drewN | apply below_drew1 | refine below_set ?_ GE115.out) | exact HB.out)⟩
                · rw [if_neg c41] at H
                  have c41b0 : (a0_0 == 4) = false := beq_eq_false_iff_ne.mpr c41
                  have c41b1 : (a0_0 != 4) = true := bne_iff_ne.mpr c41
                  by_cases c44 : a0_0 = 5
                  · rw [if_pos c44] at H
                    have c44b0 : (a0_0 == 5) = true := beq_iff_eq.mpr c44
                    have c44b1 : (a0_0 != 5) = false := bne_eq_false_iff_eq.mpr c44
                    clear c44
                    by_cases c45 : a0_1 ≥ 0
                    · rw [if_pos c45] at H
                      have c45b0 : decide (0 ≤ a0_1) = true := decide_eq_true c45
                      clear c45
                      by_cases c46 : a0_1 ≤ 255
                      · rw [if_pos c46] at H
                        have c46b0 : decide (a0_1 ≤ 255) = true := decide_eq_true c46
                        clear c46
                        replace H := Option.bind_eq_some_iff.mp H
                        obtain ⟨t120, A470, H⟩ := H
                        replace H : (if t120 = true then (if 0 < (l0_4.length : Int) then (if 0 < ((rdOf ByteArray.empty l0_4 0).size : Int) then (some ((bt (rdOf ByteArray.empty l0_4 0) 0) != 5)) else (none)) else (none)) else (some false)) = some r := H
                        have A47 := Aside0.mk A470
                        clear A470
                        by_cases c48 : t120 = true
                        · subst c48
                          have H1 : (if 0 < (l0_4.length : Int) then (if 0 < ((rdOf ByteArray.empty l0_4 0).size : Int) then (some ((bt (rdOf ByteArray.empty l0_4 0) 0) != 5)) else (none)) else (none)) = some r := by rw [if_pos rfl] at H; exact H
                          clear H
                          have H := H1
                          clear H1
                          by_cases c49 : 0 < (l0_4.length : Int)
                          · rw [if_pos c49] at H
                            have c49b0 : decide (0 < (l0_4.length : Int)) = true := decide_eq_true c49
                            have c49b1 : decide (0 < l0_4.length) = true := decide_eq_true (by omega)
                            clear c49
                            by_cases c50 : 0 < ((rdOf ByteArray.empty l0_4 0).size : Int)
                            · rw [if_pos c50] at H
                              have c50b0 : decide (0 < ((rdOf ByteArray.empty l0_4 0).size : Int)) = true := decide_eq_true c50
                              have c50b1 : decide (0 < (rdOf ByteArray.empty l0_4 0).size) = true := decide_eq_true (by omega)
                              clear c50
                              obtain rfl := Option.some.inj H
                              have hcz52_0 : wc.cell? ⟨gb115, 0, none⟩ = some (.int .i64 a0_0) := (blk_cell BK115.out 0).trans rfl
                              have hcz52_1 : wc.cell? ⟨gb115, 1, none⟩ = some (.int .i64 a0_1) := (blk_cell BK115.out 1).trans rfl
                              have hcz52_2 : wc.cell? ⟨gb115, 2, none⟩ = some (.slice A0_2 l0_2.length c0_2) := (blk_cell BK115.out 2).trans rfl
                              have hcz52_3 : wc.cell? ⟨gb115, 3, none⟩ = some (.string a0_3) := (blk_cell BK115.out 3).trans rfl
                              have hcz52_4 : wc.cell? ⟨gb115, 4, none⟩ = some (.slice A0_4 l0_4.length c0_4) := (blk_cell BK115.out 4).trans rfl
                              have hfz52_0 := blk_frozen BK115.out 0
                              have hfz52_1 := blk_frozen BK115.out 1
                              have hfz52_2 := blk_frozen BK115.out 2
                              have hfz52_3 := blk_frozen BK115.out 3
                              have hfz52_4 := blk_frozen BK115.out 4
                              go_wp2_with (first | (go_at_call 26; (with_reducible refine (frame_texts.calls kj6 _ _ l0_4 1 true _ ?side1 ?side2 A47.out).mono ?_); (case side1 => repeat (first | exact (Kd.C_below HR0_4.out HB.out) | (with_reducible refine Kd.C_alloc ?_ _) | (with_reducible refine Kd.C_drewN ?_ _) | (with_reducible refine Kd.C_drew ?_))); (case side2 => exact HC0_4.out); rintro e w' ⟨rfl, ⟨nd, rfl⟩⟩; have p121 : 0 ≤ (0 : Int) := (by omega); have q121 : 0 < (l0_4.length : Int) := of_decide_eq_true (by first | (with_reducible assumption) | assumption); obtain ⟨ad121, e121, hx121_0⟩ := Kd.at_string HR0_4.out 0 p121 q121; cases e121; have qi121 : (0 < l0_4.length) = True := eq_true (by omega); (try rw [show ((0 : Int)).toNat = 0 from rfl] at hx121_0); (try rw [Addr.add_zero'] at hx121_0); replace hx121_0 := (HB.out.cell (World.block_lt_of_cell? w _ hx121_0)).trans hx121_0; replace p121 := eq_true p121; replace q121 := eq_true q121; have p51 : 0 ≤ (0 : Int) := (by omega); have q51 : 0 < (rdOf ByteArray.empty l0_4 0).size := (by have : (0 : Int) < ((rdOf ByteArray.empty l0_4 0).size : Int) := of_decide_eq_true (by first | (with_reducible assumption) | assumption); omega); have hx51 : ∀ h : 0 < (rdOf ByteArray.empty l0_4 0).size, (((rdOf ByteArray.empty l0_4 0)[0]'h).toNat : Int) = bt (rdOf ByteArray.empty l0_4 0) 0 := bt_at (rdOf ByteArray.empty l0_4 0) 0; clear p51; have qi51 : (0 < ((rdOf ByteArray.empty l0_4 0).size : Int)) = True := eq_true (of_decide_eq_true (by first | (with_reducible assumption) | assumption)); replace q51 := eq_true q51))
                              go_ret
                              exact ⟨by first | rfl | (simp [errW_none, errW_some] <;> rfl) | (simp [*, errW_none, errW_some] <;> rfl), by repeat (first | (with_reducible first | exact HB.out | apply below_alloc | apply pw_below_drewN | apply below_drew1 | refine below_set ?_ GE115.out) | exact HB.out)⟩
                            · rw [if_neg c50] at H
                              exact absurd H (by simp)
                          · rw [if_neg c49] at H
                            exact absurd H (by simp)
                        · replace c48 := Bool.eq_false_iff.mpr c48
                          subst c48
                          have H1 : (some false) = some r := by rw [if_neg (show ¬ (false = true) by decide)] at H; exact H
                          clear H
                          have H := H1
                          clear H1
                          obtain rfl := Option.some.inj H
                          have hcz53_0 : wc.cell? ⟨gb115, 0, none⟩ = some (.int .i64 a0_0) := (blk_cell BK115.out 0).trans rfl
                          have hcz53_1 : wc.cell? ⟨gb115, 1, none⟩ = some (.int .i64 a0_1) := (blk_cell BK115.out 1).trans rfl
                          have hcz53_2 : wc.cell? ⟨gb115, 2, none⟩ = some (.slice A0_2 l0_2.length c0_2) := (blk_cell BK115.out 2).trans rfl
                          have hcz53_3 : wc.cell? ⟨gb115, 3, none⟩ = some (.string a0_3) := (blk_cell BK115.out 3).trans rfl
                          have hcz53_4 : wc.cell? ⟨gb115, 4, none⟩ = some (.slice A0_4 l0_4.length c0_4) := (blk_cell BK115.out 4).trans rfl
                          have hfz53_0 := blk_frozen BK115.out 0
                          have hfz53_1 := blk_frozen BK115.out 1
                          have hfz53_2 := blk_frozen BK115.out 2
                          have hfz53_3 := blk_frozen BK115.out 3
                          have hfz53_4 := blk_frozen BK115.out 4
                          go_wp2_with (first | (go_at_call 26; (with_reducible refine (frame_texts.calls kj6 _ _ l0_4 1 false _ ?side1 ?side2 A47.out).mono ?_); (case side1 => repeat (first | exact (Kd.C_below HR0_4.out HB.out) | (with_reducible refine Kd.C_alloc ?_ _) | (with_reducible refine Kd.C_drewN ?_ _) | (with_reducible refine Kd.C_drew ?_))); (case side2 => exact HC0_4.out); rintro e w' ⟨rfl, ⟨nd, rfl⟩⟩))
                          go_ret
                          exact ⟨by first | rfl | (simp [errW_none, errW_some] <;> rfl) | (simp [*, errW_none, errW_some] <;> rfl), by repeat (first | (with_reducible first | exact HB.out | apply below_alloc | apply pw_below_drewN | apply below_drew1 | refine below_set ?_ GE115.out) | exact HB.out)⟩
                      · rw [if_neg c46] at H
                        have c46b0 : decide (a0_1 ≤ 255) = false := decide_eq_false c46
                        clear c46
                        obtain rfl := Option.some.inj H
                        have hcz54_0 : wc.cell? ⟨gb115, 0, none⟩ = some (.int .i64 a0_0) := (blk_cell BK115.out 0).trans rfl
                        have hcz54_1 : wc.cell? ⟨gb115, 1, none⟩ = some (.int .i64 a0_1) := (blk_cell BK115.out 1).trans rfl
                        have hcz54_2 : wc.cell? ⟨gb115, 2, none⟩ = some (.slice A0_2 l0_2.length c0_2) := (blk_cell BK115.out 2).trans rfl
                        have hcz54_3 : wc.cell? ⟨gb115, 3, none⟩ = some (.string a0_3) := (blk_cell BK115.out 3).trans rfl
                        have hcz54_4 : wc.cell? ⟨gb115, 4, none⟩ = some (.slice A0_4 l0_4.length c0_4) := (blk_cell BK115.out 4).trans rfl
                        have hfz54_0 := blk_frozen BK115.out 0
                        have hfz54_1 := blk_frozen BK115.out 1
                        have hfz54_2 := blk_frozen BK115.out 2
                        have hfz54_3 := blk_frozen BK115.out 3
                        have hfz54_4 := blk_frozen BK115.out 4
                        go_wp2
                        go_ret
                        exact ⟨by first | rfl | (simp [errW_none, errW_some] <;> rfl) | (simp [*, errW_none, errW_some] <;> rfl), by repeat (first | (with_reducible first | exact HB.out | apply below_alloc | apply pw_below_drewN | apply below_drew1 | refine below_set ?_ GE115.out) | exact HB.out)⟩
                    · rw [if_neg c45] at H
                      have c45b0 : decide (0 ≤ a0_1) = false := decide_eq_false c45
                      clear c45
                      obtain rfl := Option.some.inj H
                      have hcz55_0 : wc.cell? ⟨gb115, 0, none⟩ = some (.int .i64 a0_0) := (blk_cell BK115.out 0).trans rfl
                      have hcz55_1 : wc.cell? ⟨gb115, 1, none⟩ = some (.int .i64 a0_1) := (blk_cell BK115.out 1).trans rfl
                      have hcz55_2 : wc.cell? ⟨gb115, 2, none⟩ = some (.slice A0_2 l0_2.length c0_2) := (blk_cell BK115.out 2).trans rfl
                      have hcz55_3 : wc.cell? ⟨gb115, 3, none⟩ = some (.string a0_3) := (blk_cell BK115.out 3).trans rfl
                      have hcz55_4 : wc.cell? ⟨gb115, 4, none⟩ = some (.slice A0_4 l0_4.length c0_4) := (blk_cell BK115.out 4).trans rfl
                      have hfz55_0 := blk_frozen BK115.out 0
                      have hfz55_1 := blk_frozen BK115.out 1
                      have hfz55_2 := blk_frozen BK115.out 2
                      have hfz55_3 := blk_frozen BK115.out 3
                      have hfz55_4 := blk_frozen BK115.out 4
                      go_wp2
                      go_ret
                      exact ⟨by first | rfl | (simp [errW_none, errW_some] <;> rfl) | (simp [*, errW_none, errW_some] <;> rfl), by repeat (first | (with_reducible first | exact HB.out | apply below_alloc | apply pw_below_drewN | apply below_drew1 | refine below_set ?_ GE115.out) | exact HB.out)⟩
                  · rw [if_neg c44] at H
                    have c44b0 : (a0_0 == 5) = false := beq_eq_false_iff_ne.mpr c44
                    have c44b1 : (a0_0 != 5) = true := bne_iff_ne.mpr c44
                    obtain rfl := Option.some.inj H
                    have hcz56_0 : wc.cell? ⟨gb115, 0, none⟩ = some (.int .i64 a0_0) := (blk_cell BK115.out 0).trans rfl
                    have hcz56_1 : wc.cell? ⟨gb115, 1, none⟩ = some (.int .i64 a0_1) := (blk_cell BK115.out 1).trans rfl
                    have hcz56_2 : wc.cell? ⟨gb115, 2, none⟩ = some (.slice A0_2 l0_2.length c0_2) := (blk_cell BK115.out 2).trans rfl
                    have hcz56_3 : wc.cell? ⟨gb115, 3, none⟩ = some (.string a0_3) := (blk_cell BK115.out 3).trans rfl
                    have hcz56_4 : wc.cell? ⟨gb115, 4, none⟩ = some (.slice A0_4 l0_4.length c0_4) := (blk_cell BK115.out 4).trans rfl
                    have hfz56_0 := blk_frozen BK115.out 0
                    have hfz56_1 := blk_frozen BK115.out 1
                    have hfz56_2 := blk_frozen BK115.out 2
                    have hfz56_3 := blk_frozen BK115.out 3
                    have hfz56_4 := blk_frozen BK115.out 4
                    go_wp2
                    go_ret
                    exact ⟨by first | rfl | (simp [errW_none, errW_some] <;> rfl) | (simp [*, errW_none, errW_some] <;> rfl), by repeat (first | (with_reducible first | exact HB.out | apply below_alloc | apply pw_below_drewN | apply below_drew1 | refine below_set ?_ GE115.out) | exact HB.out)⟩

end Go.Proofs.Ytbiempnleljciaa.PP
