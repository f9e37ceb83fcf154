-- WRITTEN BY a program of this work (wip/ownprint.py), for this seat
import Derived.Test.YtbiempnleljciaaPPx0
import Derived.Test.YtbiempnleljciaaPPx3
import Derived.Test.YtbiempnleljciaaPPx8
namespace Go.Proofs.Ytbiempnleljciaa.PP
open Go.RowKit Go.Proofs.YtbiempnleljciaaW.PrintWords Go.Proofs.YtbiempnleljciaaW.PrintLast Go.Proofs.YtbiempnleljciaaW.PrintMore
attribute [local go_sem] max2_int min2_int max_two min_two max_three min_three max_four min_four   -- for this text's walks alone
set_option linter.unusedVariables false
set_option linter.unusedSimpArgs false

/-! ### frame_Decode: function 15 -/
mutual
def frame_Decode.j2 : Nat → ByteArray → Bool → Int → Int → List ByteArray → ByteArray → List ByteArray → Option (Int × Int × List ByteArray × ByteArray × List ByteArray × Int)
  | 0, _, _, _, _, _, _, _ => none
  | k + 1, x215000, x215001, x219000, x219001, x219002, x219003, x219004 => (octets_Reader_End.f x215000 x215001).bind fun bt258 => (if bt258.1 = true then ((frame_Right.f k x219000 x219001 x219002 x219003 x219004).bind fun t261 => (if t261 = true then (some (x219000, x219001, x219002, x219003, x219004, 0)) else (some (0, 0, ([] : List ByteArray), (⟨#[]⟩ : ByteArray), ([] : List ByteArray), 2)))) else (some (0, 0, ([] : List ByteArray), (⟨#[]⟩ : ByteArray), ([] : List ByteArray), 2)))
def frame_Decode.l0 : Nat → Int → ByteArray → Bool → Int → Int → ByteArray → List ByteArray → Option (Int × Int × List ByteArray × ByteArray × List ByteArray × Int)
  | 0, _, _, _, _, _, _, _ => none
  | k + 1, x6, x215000, x215001, x219000, x219001, x219003, x219004 => if x6 > 0 then ((octets_Reader_Good.f x215000 x215001).bind fun bt231 => (if bt231.1 = true then ((octets_Reader_Text.f k bt231.2.1 bt231.2.2).bind fun bt234 => (if x219004.length < 8796093022208 then (frame_Decode.l0 k (wrap64 (x6 - 1)) bt234.2.1 bt234.2.2 x219000 x219001 x219003 (x219004 ++ [bt234.1])) else (none))) else (frame_Decode.j2 k bt231.2.1 bt231.2.2 x219000 x219001 ([] : List ByteArray) x219003 x219004))) else (frame_Decode.j2 k x215000 x215001 x219000 x219001 ([] : List ByteArray) x219003 x219004)
def frame_Decode.l1 : Nat → Int → ByteArray → Bool → Int → Int → List ByteArray → ByteArray → Option (Int × Int × List ByteArray × ByteArray × List ByteArray × Int)
  | 0, _, _, _, _, _, _, _ => none
  | k + 1, x7, x215000, x215001, x219000, x219001, x219002, x219003 => if x7 > 0 then ((octets_Reader_Good.f x215000 x215001).bind fun bt243 => (if bt243.1 = true then ((octets_Reader_Take.f k bt243.2.1 bt243.2.2 32).bind fun bt246 => (if x219002.length < 8796093022208 then (frame_Decode.l1 k (wrap64 (x7 - 1)) bt246.2.1 bt246.2.2 x219000 x219001 (x219002 ++ [bt246.1]) x219003) else (none))) else (if x219000 = 2 then ((octets_Reader_Text.f k bt243.2.1 bt243.2.2).bind fun bt252 => (frame_Decode.j2 k bt252.2.1 bt252.2.2 x219000 x219001 x219002 bt252.1 ([] : List ByteArray))) else (frame_Decode.j2 k bt243.2.1 bt243.2.2 x219000 x219001 x219002 x219003 ([] : List ByteArray))))) else (if x219000 = 2 then ((octets_Reader_Text.f k x215000 x215001).bind fun bt255 => (frame_Decode.j2 k bt255.2.1 bt255.2.2 x219000 x219001 x219002 bt255.1 ([] : List ByteArray))) else (frame_Decode.j2 k x215000 x215001 x219000 x219001 x219002 x219003 ([] : List ByteArray)))
end
def frame_Decode.f (k : Nat) (a0 : ByteArray) : Option (Int × Int × List ByteArray × ByteArray × List ByteArray × Int) := if (a0.size : Int) > 65535 then (some (0, 0, ([] : List ByteArray), (⟨#[]⟩ : ByteArray), ([] : List ByteArray), 3)) else ((octets_Read.f a0).bind fun bt212 => ((octets_Reader_Byte.f k bt212.1 bt212.2).bind fun bt215 => (if bt215.1 = 5 then ((octets_Reader_Byte.f k bt215.2.1 bt215.2.2).bind fun bt219 => ((octets_Reader_Text.f k bt219.2.1 bt219.2.2).bind fun bt222 => (frame_Decode.j2 k bt222.2.1 bt222.2.2 bt215.1 bt219.1 ([] : List ByteArray) (⟨#[]⟩ : ByteArray) (([bt222.1] : List ByteArray))))) else (if bt215.1 = 4 then ((octets_Reader_Byte.f k bt215.2.1 bt215.2.2).bind fun bt228 => (frame_Decode.l0 k bt228.1 bt228.2.1 bt228.2.2 bt215.1 0 (⟨#[]⟩ : ByteArray) ([] : List ByteArray))) else ((octets_Reader_Byte.f k bt215.2.1 bt215.2.2).bind fun bt240 => (frame_Decode.l1 k bt240.1 bt240.2.1 bt240.2.2 bt215.1 0 ([] : List ByteArray) (⟨#[]⟩ : ByteArray)))))))
theorem frame_Decode.mono_l : ∀ k, (∀ y0 y1 y2 y3 y4 y5 y6, LeO (frame_Decode.j2 k y0 y1 y2 y3 y4 y5 y6) (frame_Decode.j2 (k + 1) y0 y1 y2 y3 y4 y5 y6)) ∧ (∀ y0 y1 y2 y3 y4 y5 y6, LeO (frame_Decode.l0 k y0 y1 y2 y3 y4 y5 y6) (frame_Decode.l0 (k + 1) y0 y1 y2 y3 y4 y5 y6)) ∧ (∀ y0 y1 y2 y3 y4 y5 y6, LeO (frame_Decode.l1 k y0 y1 y2 y3 y4 y5 y6) (frame_Decode.l1 (k + 1) y0 y1 y2 y3 y4 y5 y6))
  | 0 => ⟨fun _ _ _ _ _ _ _ r h => by simp [frame_Decode.j2] at h, fun _ _ _ _ _ _ _ r h => by simp [frame_Decode.l0] at h, fun _ _ _ _ _ _ _ r h => by simp [frame_Decode.l1] at h⟩
  | k + 1 => by
    obtain ⟨ih0, ih1, ih2⟩ := frame_Decode.mono_l k
    refine ⟨?_, ?_, ?_⟩
    · intro y0 y1 y2 y3 y4 y5 y6
      unfold frame_Decode.j2
      repeat' first
      | (with_reducible exact ih0 _ _ _ _ _ _ _)
      | (with_reducible exact ih1 _ _ _ _ _ _ _)
      | (with_reducible exact ih2 _ _ _ _ _ _ _)
      | (with_reducible exact frame_Right.mono _ _ _ _ _ _)
      | (with_reducible exact octets_Reader_Byte.mono _ _ _)
      | (with_reducible exact octets_Reader_Take.mono _ _ _ _)
      | (with_reducible exact octets_Reader_Text.mono _ _ _)
      | (with_reducible exact LeO.refl _)
      | (with_reducible exact LeO.none _)
      | (with_reducible refine LeO.ite ?_ ?_)
      | (with_reducible refine LeO.bind ?_ (fun _ => ?_))
      | exact ih0 _ _ _ _ _ _ _
      | exact ih1 _ _ _ _ _ _ _
      | exact ih2 _ _ _ _ _ _ _
      | exact frame_Right.mono _ _ _ _ _ _
      | exact octets_Reader_Byte.mono _ _ _
      | exact octets_Reader_Take.mono _ _ _ _
      | exact octets_Reader_Text.mono _ _ _
      | exact LeO.none _
      | refine LeO.ite ?_ ?_
      | refine LeO.bind ?_ (fun _ => ?_)
    · intro y0 y1 y2 y3 y4 y5 y6
      unfold frame_Decode.l0
      repeat' first
      | (with_reducible exact ih0 _ _ _ _ _ _ _)
      | (with_reducible exact ih1 _ _ _ _ _ _ _)
      | (with_reducible exact ih2 _ _ _ _ _ _ _)
      | (with_reducible exact frame_Right.mono _ _ _ _ _ _)
      | (with_reducible exact octets_Reader_Byte.mono _ _ _)
      | (with_reducible exact octets_Reader_Take.mono _ _ _ _)
      | (with_reducible exact octets_Reader_Text.mono _ _ _)
      | (with_reducible exact LeO.refl _)
      | (with_reducible exact LeO.none _)
      | (with_reducible refine LeO.ite ?_ ?_)
      | (with_reducible refine LeO.bind ?_ (fun _ => ?_))
      | exact ih0 _ _ _ _ _ _ _
      | exact ih1 _ _ _ _ _ _ _
      | exact ih2 _ _ _ _ _ _ _
      | exact frame_Right.mono _ _ _ _ _ _
      | exact octets_Reader_Byte.mono _ _ _
      | exact octets_Reader_Take.mono _ _ _ _
      | exact octets_Reader_Text.mono _ _ _
      | exact LeO.none _
      | refine LeO.ite ?_ ?_
      | refine LeO.bind ?_ (fun _ => ?_)
    · intro y0 y1 y2 y3 y4 y5 y6
      unfold frame_Decode.l1
      repeat' first
      | (with_reducible exact ih0 _ _ _ _ _ _ _)
      | (with_reducible exact ih1 _ _ _ _ _ _ _)
      | (with_reducible exact ih2 _ _ _ _ _ _ _)
      | (with_reducible exact frame_Right.mono _ _ _ _ _ _)
      | (with_reducible exact octets_Reader_Byte.mono _ _ _)
      | (with_reducible exact octets_Reader_Take.mono _ _ _ _)
      | (with_reducible exact octets_Reader_Text.mono _ _ _)
      | (with_reducible exact LeO.refl _)
      | (with_reducible exact LeO.none _)
      | (with_reducible refine LeO.ite ?_ ?_)
      | (with_reducible refine LeO.bind ?_ (fun _ => ?_))
      | exact ih0 _ _ _ _ _ _ _
      | exact ih1 _ _ _ _ _ _ _
      | exact ih2 _ _ _ _ _ _ _
      | exact frame_Right.mono _ _ _ _ _ _
      | exact octets_Reader_Byte.mono _ _ _
      | exact octets_Reader_Take.mono _ _ _ _
      | exact octets_Reader_Text.mono _ _ _
      | exact LeO.none _
      | refine LeO.ite ?_ ?_
      | refine LeO.bind ?_ (fun _ => ?_)
theorem frame_Decode.mono : ∀ a0 k, LeO (frame_Decode.f k a0) (frame_Decode.f (k + 1) a0) := by
  intro a0 k
  obtain ⟨ih0, ih1, ih2⟩ := frame_Decode.mono_l k
  unfold frame_Decode.f
  repeat' first
      | (with_reducible exact ih0 _ _ _ _ _ _ _)
      | (with_reducible exact ih1 _ _ _ _ _ _ _)
      | (with_reducible exact ih2 _ _ _ _ _ _ _)
      | (with_reducible exact frame_Right.mono _ _ _ _ _ _)
      | (with_reducible exact octets_Reader_Byte.mono _ _ _)
      | (with_reducible exact octets_Reader_Take.mono _ _ _ _)
      | (with_reducible exact octets_Reader_Text.mono _ _ _)
      | (with_reducible exact LeO.refl _)
      | (with_reducible exact LeO.none _)
      | (with_reducible refine LeO.ite ?_ ?_)
      | (with_reducible refine LeO.bind ?_ (fun _ => ?_))
      | exact ih0 _ _ _ _ _ _ _
      | exact ih1 _ _ _ _ _ _ _
      | exact ih2 _ _ _ _ _ _ _
      | exact frame_Right.mono _ _ _ _ _ _
      | exact octets_Reader_Byte.mono _ _ _
      | exact octets_Reader_Take.mono _ _ _ _
      | exact octets_Reader_Text.mono _ _ _
      | exact LeO.none _
      | refine LeO.ite ?_ ?_
      | refine LeO.bind ?_ (fun _ => ?_)
def frame_Decode.T9 : Bool × List (List Nat × List Nat) := (true, [([], []), ([0], [0]), ([], []), ([2], [2]), ([3], [3]), ([1, 4, 3], [1, 4]), ([0, 1, 2, 3, 4, 5], []), ([6, 5, 5, 0, 1, 2, 3, 4, 5], [5, 6])])
def frame_Decode.B9 : List Nat := [0, 1, 0, 4, 12, 31, 63, 127]
theorem frame_Decode.tab9 : rtab .any (opsOf Try.f15 9) = frame_Decode.T9 := by kernel_rfl
theorem frame_Decode.bits9 : waitsOk frame_Decode.T9.2 frame_Decode.B9 = true := by kernel_rfl
def frame_Decode.T19 : Bool × List (List Nat × List Nat) := (true, [([], []), ([0], [0]), ([], []), ([2], [2]), ([3], [3]), ([1, 4, 3], [1, 4]), ([0, 1, 2, 3, 4, 5], []), ([6, 5, 5, 0, 1, 2, 3, 4, 5], [5, 6])])
def frame_Decode.B19 : List Nat := [0, 1, 0, 4, 12, 31, 63, 127]
theorem frame_Decode.tab19 : rtab .any (opsOf Try.f15 19) = frame_Decode.T19 := by kernel_rfl
theorem frame_Decode.bits19 : waitsOk frame_Decode.T19.2 frame_Decode.B19 = true := by kernel_rfl
set_option maxHeartbeats 64000000 in
set_option maxRecDepth 100000 in
theorem frame_Decode.calls (k : Nat) (a0 : ByteArray) (r1 : Int) (r2 : Int) (r3 : List ByteArray) (r4 : ByteArray) (r5 : List ByteArray) (r6 : Int) (w : World) (h : frame_Decode.f k a0 = some (r1, r2, r3, r4, r5, r6)) :
    Calls Try.prog 15 #[.string a0] w fun e w' => ∃ v2_ v4_ : Value, e = .returned (.tuple #[.agg #[.int .i64 r1, .int .i64 r2, v2_, .string r4, v4_], .int .i64 r6]) ∧ Kd.R Kd.string 9 w' w.heap.size (fun k_ => some k_ ≠ (v4_ : Value).ownBlock) v2_ r3 ∧ Kd.R Kd.string 9 w' w.heap.size (fun k_ => some k_ ≠ (v2_ : Value).ownBlock) v4_ r5 ∧ Below w.heap.size w w' := by
  have hu24 := Try.underlying24
  have HB := Aside0.mk (Below.refl w.heap.size w)
  have H : (if (a0.size : Int) > 65535 then (some (0, 0, ([] : List ByteArray), (⟨#[]⟩ : ByteArray), ([] : List ByteArray), 3)) else ((octets_Read.f a0).bind fun bt212 => ((octets_Reader_Byte.f k bt212.1 bt212.2).bind fun bt215 => (if bt215.1 = 5 then ((octets_Reader_Byte.f k bt215.2.1 bt215.2.2).bind fun bt219 => ((octets_Reader_Text.f k bt219.2.1 bt219.2.2).bind fun bt222 => (frame_Decode.j2 k bt222.2.1 bt222.2.2 bt215.1 bt219.1 ([] : List ByteArray) (⟨#[]⟩ : ByteArray) (([bt222.1] : List ByteArray))))) else (if bt215.1 = 4 then ((octets_Reader_Byte.f k bt215.2.1 bt215.2.2).bind fun bt228 => (frame_Decode.l0 k bt228.1 bt228.2.1 bt228.2.2 bt215.1 0 (⟨#[]⟩ : ByteArray) ([] : List ByteArray))) else ((octets_Reader_Byte.f k bt215.2.1 bt215.2.2).bind fun bt240 => (frame_Decode.l1 k bt240.1 bt240.2.1 bt240.2.2 bt215.1 0 ([] : List ByteArray) (⟨#[]⟩ : ByteArray)))))))) = some (r1, r2, r3, r4, r5, r6) := h
  clear h
  by_cases c2 : (a0.size : Int) > 65535
  · rw [if_pos c2] at H
    have c2b0 : decide (65535 < (a0.size : Int)) = true := decide_eq_true c2
    have c2b1 : decide (65535 < a0.size) = true := decide_eq_true (by omega)
    clear c2
    simp only [Option.some.injEq, Prod.mk.injEq] at H
    obtain ⟨rfl, rfl, rfl, rfl, rfl, rfl⟩ := H
    go_enter Try.func15, Try.ntmps15
    go_wp2_with (first | ((with_reducible refine gate_dst (N := 2) rfl ?_); refine box_event ?hg (N := 2) ?hd (cs := #[.int .i64 0, .int .i64 0, .slice none 0 0, .string (⟨#[]⟩ : ByteArray), .slice none 0 0]) (t := 24) ?hr ?_; (case hd => rfl); (case hg => rfl); (case hr => first | (go_simp; done) | (go_simp; rfl)); intro gb211 hg w3 hbox hb; have n0_ := Aside0.mk (below_step (by repeat (first | (with_reducible first | exact HB.out | apply below_alloc | apply pw_below_drewN | apply below_drew1) | exact HB.out)) hb); have n1_ := Aside0.mk (hbox); have n2_ := Aside0.mk ((by rw [hg]; exact (below_size (by repeat (first | (with_reducible first | exact HB.out | apply below_alloc | apply pw_below_drewN | apply below_drew1) | exact HB.out))) : w.heap.size ≤ gb211)); have n3_ := Aside0.mk ((by rw [hg]; exact (below_size (by repeat (first | (with_reducible first | exact HB.out | apply below_alloc | apply pw_below_drewN | apply below_drew1) | exact HB.out))) : w.heap.size ≤ gb211)); clear HB; have HB := n0_; have BK211 := n1_; have GW211 := n2_; have GE211 := n3_; clear n0_ n1_ n2_ n3_; clear hb hbox hg; have hcz4_0 : w3.cell? ⟨gb211, 0, none⟩ = some (.int .i64 0) := (blk_cell BK211.out 0).trans rfl; have hcz4_1 : w3.cell? ⟨gb211, 1, none⟩ = some (.int .i64 0) := (blk_cell BK211.out 1).trans rfl; have hcz4_2 : w3.cell? ⟨gb211, 2, none⟩ = some (.slice none 0 0) := (blk_cell BK211.out 2).trans rfl; have hcz4_3 : w3.cell? ⟨gb211, 3, none⟩ = some (.string (⟨#[]⟩ : ByteArray)) := (blk_cell BK211.out 3).trans rfl; have hcz4_4 : w3.cell? ⟨gb211, 4, none⟩ = some (.slice none 0 0) := (blk_cell BK211.out 4).trans rfl; have hfz4_0 := blk_frozen BK211.out 0; have hfz4_1 := blk_frozen BK211.out 1; have hfz4_2 := blk_frozen BK211.out 2; have hfz4_3 := blk_frozen BK211.out 3; have hfz4_4 := blk_frozen BK211.out 4))
    refine bodyPost_ret (results_ct rfl _ _ gb211 24 #[.int .i64 0, .int .i64 0, .slice none 0 0, .string (⟨#[]⟩ : ByteArray), .slice none 0 0] (0, 0) _ rfl (by (with_reducible repeat (first | refine blk_drewN ?_ _ | refine blk_drew ?_ | refine blk_alloc ?_ _)); refine blk_put (cs := #[.int .i64 0, .int .i64 0, .slice none 0 0, .string (⟨#[]⟩ : ByteArray), .slice none 0 0]) ?_ 4 _ rfl; (with_reducible repeat (first | refine blk_drewN ?_ _ | refine blk_drew ?_ | refine blk_alloc ?_ _)); refine blk_put (cs := #[.int .i64 0, .int .i64 0, .slice none 0 0, .string (⟨#[]⟩ : ByteArray), .slice none 0 0]) ?_ 3 _ rfl; (with_reducible repeat (first | refine blk_drewN ?_ _ | refine blk_drew ?_ | refine blk_alloc ?_ _)); refine blk_put (cs := #[.int .i64 0, .int .i64 0, .slice none 0 0, .string (⟨#[]⟩ : ByteArray), .slice none 0 0]) ?_ 2 _ rfl; (with_reducible repeat (first | refine blk_drewN ?_ _ | refine blk_drew ?_ | refine blk_alloc ?_ _)); refine blk_put (cs := #[.int .i64 0, .int .i64 0, .slice none 0 0, .string (⟨#[]⟩ : ByteArray), .slice none 0 0]) ?_ 1 _ rfl; (with_reducible repeat (first | refine blk_drewN ?_ _ | refine blk_drew ?_ | refine blk_alloc ?_ _)); refine blk_put (cs := #[.int .i64 0, .int .i64 0, .slice none 0 0, .string (⟨#[]⟩ : ByteArray), .slice none 0 0]) ?_ 0 _ rfl; (with_reducible repeat (first | refine blk_drewN ?_ _ | refine blk_drew ?_ | refine blk_alloc ?_ _)); exact BK211.out) Try.underlying24 rfl (by kernel_rfl)) rfl ?_
    exact ⟨_, _, by first | rfl | (simp [errW_none, errW_some] <;> rfl) | (simp [*, errW_none, errW_some] <;> rfl), by first | exact Kd.R_nil _ _ _ _ _ | exact Kd.N_nil _ _ _ _ _ | exact Kd.V_nil _ _ _ _ _ | exact Kd.Q_nil _ _ _ _ _ | exact Kd.S_nil _ _ _ _ _, by first | exact Kd.R_nil _ _ _ _ _ | exact Kd.N_nil _ _ _ _ _ | exact Kd.V_nil _ _ _ _ _ | exact Kd.Q_nil _ _ _ _ _ | exact Kd.S_nil _ _ _ _ _, by repeat (first | (with_reducible first | exact HB.out | apply below_alloc | apply pw_below_drewN | apply below_drew1 | refine below_set ?_ GE211.out) | exact HB.out)⟩
  · rw [if_neg c2] at H
    have c2b0 : decide (65535 < (a0.size : Int)) = false := decide_eq_false c2
    have c2b1 : decide (65535 < a0.size) = false := decide_eq_false (by omega)
    clear c2
    replace H := Option.bind_eq_some_iff.mp H
    obtain ⟨⟨t212, t213⟩, A50, H⟩ := H
    replace H : ((octets_Reader_Byte.f k t212 t213).bind fun bt215 => (if bt215.1 = 5 then ((octets_Reader_Byte.f k bt215.2.1 bt215.2.2).bind fun bt219 => ((octets_Reader_Text.f k bt219.2.1 bt219.2.2).bind fun bt222 => (frame_Decode.j2 k bt222.2.1 bt222.2.2 bt215.1 bt219.1 ([] : List ByteArray) (⟨#[]⟩ : ByteArray) (([bt222.1] : List ByteArray))))) else (if bt215.1 = 4 then ((octets_Reader_Byte.f k bt215.2.1 bt215.2.2).bind fun bt228 => (frame_Decode.l0 k bt228.1 bt228.2.1 bt228.2.2 bt215.1 0 (⟨#[]⟩ : ByteArray) ([] : List ByteArray))) else ((octets_Reader_Byte.f k bt215.2.1 bt215.2.2).bind fun bt240 => (frame_Decode.l1 k bt240.1 bt240.2.1 bt240.2.2 bt215.1 0 ([] : List ByteArray) (⟨#[]⟩ : ByteArray)))))) = some (r1, r2, r3, r4, r5, r6) := H
    have A5 := Aside0.mk A50
    clear A50
    replace H := Option.bind_eq_some_iff.mp H
    obtain ⟨⟨t215, t216, t217⟩, A60, H⟩ := H
    replace H : (if t215 = 5 then ((octets_Reader_Byte.f k t216 t217).bind fun bt219 => ((octets_Reader_Text.f k bt219.2.1 bt219.2.2).bind fun bt222 => (frame_Decode.j2 k bt222.2.1 bt222.2.2 t215 bt219.1 ([] : List ByteArray) (⟨#[]⟩ : ByteArray) (([bt222.1] : List ByteArray))))) else (if t215 = 4 then ((octets_Reader_Byte.f k t216 t217).bind fun bt228 => (frame_Decode.l0 k bt228.1 bt228.2.1 bt228.2.2 t215 0 (⟨#[]⟩ : ByteArray) ([] : List ByteArray))) else ((octets_Reader_Byte.f k t216 t217).bind fun bt240 => (frame_Decode.l1 k bt240.1 bt240.2.1 bt240.2.2 t215 0 ([] : List ByteArray) (⟨#[]⟩ : ByteArray))))) = some (r1, r2, r3, r4, r5, r6) := H
    have A6 := Aside0.mk A60
    clear A60
    have HC7 := Aside0.mk H
    clear H
    go_enter Try.func15, Try.ntmps15
    go_upto_block 0 with (first | ((with_reducible refine gate_dst (N := 2) rfl ?_); refine box_event ?hg (N := 2) ?hd (cs := #[.int .i64 0, .int .i64 0, .slice none 0 0, .string (⟨#[]⟩ : ByteArray), .slice none 0 0]) (t := 24) ?hr ?_; (case hd => rfl); (case hg => rfl); (case hr => first | (go_simp; done) | (go_simp; rfl)); intro gb211 hg w8 hbox hb; have n0_ := Aside0.mk (below_step (by repeat (first | (with_reducible first | exact HB.out | apply below_alloc | apply pw_below_drewN | apply below_drew1) | exact HB.out)) hb); have n1_ := Aside0.mk (hbox); have n2_ := Aside0.mk ((by rw [hg]; exact (below_size (by repeat (first | (with_reducible first | exact HB.out | apply below_alloc | apply pw_below_drewN | apply below_drew1) | exact HB.out))) : w.heap.size ≤ gb211)); have n3_ := Aside0.mk ((by rw [hg]; exact (below_size (by repeat (first | (with_reducible first | exact HB.out | apply below_alloc | apply pw_below_drewN | apply below_drew1) | exact HB.out))) : w.heap.size ≤ gb211)); clear HB; have HB := n0_; have BK211 := n1_; have GW211 := n2_; have GE211 := n3_; clear n0_ n1_ n2_ n3_; clear hb hbox hg) | ((with_reducible refine gate_callee (f := 28) rfl ?_); refine goesL_ (some 13) rfl rfl Try.func28 (by kernel_rfl) rfl #[.string a0] rfl (by (try simp only [List.map_toArray, List.map_cons, List.map_nil]); first | done | rfl | (simp only [List.length_drop, List.length_take]; rfl)) ?_; (with_reducible refine (octets_Read.calls a0 t212 t213 w _ ?side1 A5.out).mono ?_); (case side1 => repeat (first | (with_reducible first | exact HB.out | apply below_alloc | apply pw_below_drewN | apply below_drew1 | refine below_set ?_ GE211.out) | exact HB.out)); rintro e w9 ⟨g214, rfl, hi, hb, hb2⟩; refine ⟨_, rfl, ?_⟩; have n0_ := Aside0.mk (blk_below (g := gb211) (o := .cells #[.int .i64 0, .int .i64 0, .slice none 0 0, .string (⟨#[]⟩ : ByteArray), .slice none 0 0] 24 (0, 0)) (by (with_reducible repeat (first | refine blk_drewN ?_ _ | refine blk_drew ?_ | refine blk_alloc ?_ _)); exact BK211.out) hb2); have n1_ := Aside0.mk (hb); have n2_ := Aside0.mk (hi); have n3_ := Aside0.mk (IsS65.ne_blk hi (blk_below (g := gb211) (o := .cells #[.int .i64 0, .int .i64 0, .slice none 0 0, .string (⟨#[]⟩ : ByteArray), .slice none 0 0] 24 (0, 0)) (by (with_reducible repeat (first | refine blk_drewN ?_ _ | refine blk_drew ?_ | refine blk_alloc ?_ _)); exact BK211.out) hb2) (by decide)); have n4_ := Aside0.mk (Ne.symm (IsS65.ne_blk hi (blk_below (g := gb211) (o := .cells #[.int .i64 0, .int .i64 0, .slice none 0 0, .string (⟨#[]⟩ : ByteArray), .slice none 0 0] 24 (0, 0)) (by (with_reducible repeat (first | refine blk_drewN ?_ _ | refine blk_drew ?_ | refine blk_alloc ?_ _)); exact BK211.out) hb2) (by decide))); clear BK211; clear HB; have BK211 := n0_; have HB := n1_; have HI214 := n2_; have NB214_211 := n3_; have NB211_214 := n4_; clear n0_ n1_ n2_ n3_ n4_; (try clear hb); (try clear hb2); (try clear hk); (try clear hi)) | ((with_reducible refine gate_callee (f := 29) rfl ?_); refine goesL_ (some 15) rfl rfl Try.func29 (by kernel_rfl) rfl #[.pointer (some ⟨g214, 0, none⟩)] rfl (by (try simp only [List.map_toArray, List.map_cons, List.map_nil]); first | done | rfl | (simp only [List.length_drop, List.length_take]; rfl)) ?_; (with_reducible refine (octets_Reader_Byte.calls k g214 t212 t213 t215 t216 t217 w _ ?side1 ?side2 A6.out).mono ?_); (case side1 => repeat (first | (with_reducible first | exact HI214.out | apply IsS65.alloc | apply IsS65.drewN | apply IsS65.drew | apply IsS65.set_0 | apply IsS65.set_1 | refine IsS65.far ?_ NB214_211.out _) | exact HI214.out)); (case side2 => repeat (first | (with_reducible first | exact HB.out | apply below_alloc | apply pw_below_drewN | apply below_drew1 | refine below_set ?_ (IsS65.ge HI214.out) | refine below_set ?_ GE211.out) | exact HB.out)); rintro e w10 ⟨rfl, hi, hb, hk⟩; refine ⟨_, rfl, ?_⟩; have n0_ := Aside0.mk (KeepBut.blk hk (g' := gb211) (o := .cells #[.int .i64 0, .int .i64 0, .slice none 0 0, .string (⟨#[]⟩ : ByteArray), .slice none 0 0] 24 (0, 0)) (by (with_reducible repeat (first | refine blk_drewN ?_ _ | refine blk_drew ?_ | refine blk_alloc ?_ _)); exact BK211.out) NB211_214.out (by simp)); have n1_ := Aside0.mk (hb); have n2_ := Aside0.mk (hi); clear BK211; clear HB; clear HI214; have BK211 := n0_; have HB := n1_; have HI214 := n2_; clear n0_ n1_ n2_; (try clear hb); (try clear hb2); (try clear hk); (try clear hi)) | ((with_reducible refine gate_dst (N := 5) rfl ?_); refine box_event ?hg (N := 5) ?hd (cs := #[.int .i64 0, .int .i64 0, .slice none 0 0, .string (⟨#[]⟩ : ByteArray), .slice none 0 0]) (t := 24) ?hr ?_; (case hd => rfl); (case hg => rfl); (case hr => first | (go_simp; done) | (go_simp; rfl)); intro gb218 hg w11 hbox hb; have n0_ := Aside0.mk (blk_below (g := gb211) (o := .cells #[.int .i64 0, .int .i64 0, .slice none 0 0, .string (⟨#[]⟩ : ByteArray), .slice none 0 0] 24 (0, 0)) (by (with_reducible repeat (first | refine blk_drewN ?_ _ | refine blk_drew ?_ | refine blk_alloc ?_ _)); exact BK211.out) hb); have n1_ := Aside0.mk (IsS65.below (by repeat (first | (with_reducible first | exact HI214.out | apply IsS65.alloc | apply IsS65.drewN | apply IsS65.drew | apply IsS65.set_0 | apply IsS65.set_1 | refine IsS65.far ?_ NB214_211.out _) | exact HI214.out)) hb); have n2_ := Aside0.mk (below_step (by repeat (first | (with_reducible first | exact HB.out | apply below_alloc | apply pw_below_drewN | apply below_drew1 | refine below_set ?_ (IsS65.ge HI214.out) | refine below_set ?_ GE211.out) | exact HB.out)) hb); have n3_ := Aside0.mk (hbox); have n4_ := Aside0.mk ((by rw [hg]; exact (below_size (by repeat (first | (with_reducible first | exact HB.out | apply below_alloc | apply pw_below_drewN | apply below_drew1 | refine below_set ?_ (IsS65.ge HI214.out) | refine below_set ?_ GE211.out) | exact HB.out))) : w.heap.size ≤ gb218)); have n5_ := Aside0.mk ((by rw [hg]; exact (below_size (by repeat (first | (with_reducible first | exact HB.out | apply below_alloc | apply pw_below_drewN | apply below_drew1 | refine below_set ?_ (IsS65.ge HI214.out) | refine below_set ?_ GE211.out) | exact HB.out))) : w.heap.size ≤ gb218)); have n6_ := Aside0.mk ((by rw [hg]; exact Nat.ne_of_lt (blk_lt (g := gb211) (o := .cells #[.int .i64 0, .int .i64 0, .slice none 0 0, .string (⟨#[]⟩ : ByteArray), .slice none 0 0] 24 (0, 0)) (by (with_reducible repeat (first | refine blk_drewN ?_ _ | refine blk_drew ?_ | refine blk_alloc ?_ _)); exact BK211.out)) : gb211 ≠ gb218)); have n7_ := Aside0.mk ((by rw [hg]; exact Nat.ne_of_gt (blk_lt (g := gb211) (o := .cells #[.int .i64 0, .int .i64 0, .slice none 0 0, .string (⟨#[]⟩ : ByteArray), .slice none 0 0] 24 (0, 0)) (by (with_reducible repeat (first | refine blk_drewN ?_ _ | refine blk_drew ?_ | refine blk_alloc ?_ _)); exact BK211.out)) : gb218 ≠ gb211)); have n8_ := Aside0.mk ((by rw [hg]; exact Nat.ne_of_lt (IsS65.lt (show IsS65 w _ g214 t216 t217 from by repeat (first | (with_reducible first | exact HI214.out | apply IsS65.alloc | apply IsS65.drewN | apply IsS65.drew | apply IsS65.set_0 | apply IsS65.set_1 | refine IsS65.far ?_ NB214_211.out _) | exact HI214.out))) : g214 ≠ gb218)); have n9_ := Aside0.mk ((by rw [hg]; exact Nat.ne_of_gt (IsS65.lt (show IsS65 w _ g214 t216 t217 from by repeat (first | (with_reducible first | exact HI214.out | apply IsS65.alloc | apply IsS65.drewN | apply IsS65.drew | apply IsS65.set_0 | apply IsS65.set_1 | refine IsS65.far ?_ NB214_211.out _) | exact HI214.out))) : gb218 ≠ g214)); clear BK211; clear HI214; clear HB; have BK211 := n0_; have HI214 := n1_; have HB := n2_; have BK218 := n3_; have GW218 := n4_; have GE218 := n5_; have NB211_218 := n6_; have NB218_211 := n7_; have NB214_218 := n8_; have NB218_214 := n9_; clear n0_ n1_ n2_ n3_ n4_ n5_ n6_ n7_ n8_ n9_; clear hb hbox hg; have hnb12 := NB218_211.out; have hnc12 := NB211_218.out; have hnb13 := NB218_214.out; have hnc13 := NB214_218.out; have hcz14_0 : w11.cell? ⟨gb218, 0, none⟩ = some (.int .i64 0) := (blk_cell BK218.out 0).trans rfl; have hcz14_1 : w11.cell? ⟨gb218, 1, none⟩ = some (.int .i64 0) := (blk_cell BK218.out 1).trans rfl; have hcz14_2 : w11.cell? ⟨gb218, 2, none⟩ = some (.slice none 0 0) := (blk_cell BK218.out 2).trans rfl; have hcz14_3 : w11.cell? ⟨gb218, 3, none⟩ = some (.string (⟨#[]⟩ : ByteArray)) := (blk_cell BK218.out 3).trans rfl; have hcz14_4 : w11.cell? ⟨gb218, 4, none⟩ = some (.slice none 0 0) := (blk_cell BK218.out 4).trans rfl; have hfz14_0 := blk_frozen BK218.out 0; have hfz14_1 := blk_frozen BK218.out 1; have hfz14_2 := blk_frozen BK218.out 2; have hfz14_3 := blk_frozen BK218.out 3; have hfz14_4 := blk_frozen BK218.out 4))
    (try simp only [Act.put, List.setIfInBounds_toArray, List.set_cons_zero, List.set_cons_succ])
    go_cut [] (fun wc => ∃ (kq : Nat) (x215000_6 : ByteArray) (x215001_6 : Bool) (x219001_6 : Int) (x219002_6 : List ByteArray) (x219003_6 : ByteArray) (x219004_6 : List ByteArray) (u219002 : Value) (u219004 : Value), Aside0 (frame_Decode.j2 kq x215000_6 x215001_6 t215 x219001_6 x219002_6 x219003_6 x219004_6 = some (r1, r2, r3, r4, r5, r6)) ∧ Aside0 (kq ≤ k) ∧ Aside0 (Kd.R Kd.string 9 wc w.heap.size (fun k_ => some k_ ≠ (u219004 : Value).ownBlock) u219002 x219002_6) ∧ Aside0 (Kd.R Kd.string 9 wc w.heap.size (fun k_ => some k_ ≠ (u219002 : Value).ownBlock) u219004 x219004_6) ∧ Aside0 (wc.heap[gb211]? = some (.cells #[.int .i64 0, .int .i64 0, (.slice none 0 0), .string (⟨#[]⟩ : ByteArray), (.slice none 0 0)] 24 (0, 0))) ∧ Aside0 (wc.heap[gb218]? = some (.cells #[.int .i64 t215, .int .i64 x219001_6, u219002, .string x219003_6, u219004] 24 (0, 0))) ∧ Aside0 (IsS65 w wc g214 x215000_6 x215001_6) ∧ Aside0 (Below w.heap.size w wc))
    case first =>
      have H := HC7.out
      clear HC7
      by_cases c15 : t215 = 5
      · rw [if_pos c15] at H
        have c15b0 : (t215 == 5) = true := beq_iff_eq.mpr c15
        have c15b1 : (t215 != 5) = false := bne_eq_false_iff_eq.mpr c15
        clear c15
        (first | rw [c15b0] | (simp only [i64_w, i32_w]; rw [c15b0]) | skip)
        replace H := Option.bind_eq_some_iff.mp H
        obtain ⟨⟨t219, t220, t221⟩, A160, H⟩ := H
        replace H : ((octets_Reader_Text.f k t220 t221).bind fun bt222 => (frame_Decode.j2 k bt222.2.1 bt222.2.2 t215 t219 ([] : List ByteArray) (⟨#[]⟩ : ByteArray) (([bt222.1] : List ByteArray)))) = some (r1, r2, r3, r4, r5, r6) := H
        have A16 := Aside0.mk A160
        clear A160
        replace H := Option.bind_eq_some_iff.mp H
        obtain ⟨⟨t222, t223, t224⟩, A170, H⟩ := H
        replace H : (frame_Decode.j2 k t223 t224 t215 t219 ([] : List ByteArray) (⟨#[]⟩ : ByteArray) (([t222] : List ByteArray))) = some (r1, r2, r3, r4, r5, r6) := H
        have A17 := Aside0.mk A170
        clear A170
        obtain ⟨y225, hy225⟩ : ∃ y_ : List ByteArray, y_ = (([t222] : List ByteArray)) := ⟨_, rfl⟩
        replace H : (frame_Decode.j2 k t223 t224 t215 t219 ([] : List ByteArray) (⟨#[]⟩ : ByteArray) y225) = some (r1, r2, r3, r4, r5, r6) := by first | (rw [hy225]; with_reducible exact H) | (have H2_ := (Option.bind_some _ _).symm.trans H; rw [hy225]; with_reducible exact H2_) | (have H2_ := (Option.bind_some _ _).symm.trans H; with_reducible exact H2_) | with_reducible exact H | (rw [hy225]; exact H) | exact H
        have Ny225 := Aside0.mk hy225
        clear hy225
        have H' := Aside0.mk H
        clear H
        go_wp2_with (first | ((with_reducible refine gate_callee (f := 29) rfl ?_); refine goesL_ (some 45) rfl rfl Try.func29 (by kernel_rfl) rfl #[.pointer (some ⟨g214, 0, none⟩)] rfl (by (try simp only [List.map_toArray, List.map_cons, List.map_nil]); first | done | rfl | (simp only [List.length_drop, List.length_take]; rfl)) ?_; (with_reducible refine (octets_Reader_Byte.calls k g214 t216 t217 t219 t220 t221 w _ ?side1 ?side2 A16.out).mono ?_); (case side1 => repeat (first | (with_reducible first | exact HI214.out | apply IsS65.alloc | apply IsS65.drewN | apply IsS65.drew | apply IsS65.set_0 | apply IsS65.set_1 | refine IsS65.far ?_ NB214_211.out _ | refine IsS65.far ?_ NB214_218.out _) | exact HI214.out)); (case side2 => repeat (first | (with_reducible first | exact HB.out | apply below_alloc | apply pw_below_drewN | apply below_drew1 | refine below_set ?_ (IsS65.ge HI214.out) | refine below_set ?_ GE211.out | refine below_set ?_ GE218.out) | exact HB.out)); rintro e w18 ⟨rfl, hi, hb, hk⟩; refine ⟨_, rfl, ?_⟩; have n0_ := Aside0.mk (KeepBut.blk hk (g' := gb211) (o := .cells #[.int .i64 0, .int .i64 0, .slice none 0 0, .string (⟨#[]⟩ : ByteArray), .slice none 0 0] 24 (0, 0)) (by (with_reducible repeat (first | refine blk_drewN ?_ _ | refine blk_drew ?_ | refine blk_alloc ?_ _)); refine blk_far ?_ NB211_218.out _; (with_reducible repeat (first | refine blk_drewN ?_ _ | refine blk_drew ?_ | refine blk_alloc ?_ _)); refine blk_far ?_ NB211_218.out _; (with_reducible repeat (first | refine blk_drewN ?_ _ | refine blk_drew ?_ | refine blk_alloc ?_ _)); refine blk_far ?_ NB211_218.out _; (with_reducible repeat (first | refine blk_drewN ?_ _ | refine blk_drew ?_ | refine blk_alloc ?_ _)); refine blk_far ?_ NB211_218.out _; (with_reducible repeat (first | refine blk_drewN ?_ _ | refine blk_drew ?_ | refine blk_alloc ?_ _)); refine blk_far ?_ NB211_218.out _; (with_reducible repeat (first | refine blk_drewN ?_ _ | refine blk_drew ?_ | refine blk_alloc ?_ _)); exact BK211.out) NB211_214.out (by simp)); have n1_ := Aside0.mk (KeepBut.blk hk (g' := gb218) (o := .cells #[.int .i64 t215, .int .i64 0, .slice none 0 0, .string (⟨#[]⟩ : ByteArray), .slice none 0 0] 24 (0, 0)) (by (with_reducible repeat (first | refine blk_drewN ?_ _ | refine blk_drew ?_ | refine blk_alloc ?_ _)); refine blk_put (cs := #[.int .i64 t215, .int .i64 0, .slice none 0 0, .string (⟨#[]⟩ : ByteArray), .slice none 0 0]) ?_ 4 _ rfl; (with_reducible repeat (first | refine blk_drewN ?_ _ | refine blk_drew ?_ | refine blk_alloc ?_ _)); refine blk_put (cs := #[.int .i64 t215, .int .i64 0, .slice none 0 0, .string (⟨#[]⟩ : ByteArray), .slice none 0 0]) ?_ 3 _ rfl; (with_reducible repeat (first | refine blk_drewN ?_ _ | refine blk_drew ?_ | refine blk_alloc ?_ _)); refine blk_put (cs := #[.int .i64 t215, .int .i64 0, .slice none 0 0, .string (⟨#[]⟩ : ByteArray), .slice none 0 0]) ?_ 2 _ rfl; (with_reducible repeat (first | refine blk_drewN ?_ _ | refine blk_drew ?_ | refine blk_alloc ?_ _)); refine blk_put (cs := #[.int .i64 t215, .int .i64 0, .slice none 0 0, .string (⟨#[]⟩ : ByteArray), .slice none 0 0]) ?_ 1 _ rfl; (with_reducible repeat (first | refine blk_drewN ?_ _ | refine blk_drew ?_ | refine blk_alloc ?_ _)); refine blk_put (cs := #[.int .i64 0, .int .i64 0, .slice none 0 0, .string (⟨#[]⟩ : ByteArray), .slice none 0 0]) ?_ 0 _ rfl; (with_reducible repeat (first | refine blk_drewN ?_ _ | refine blk_drew ?_ | refine blk_alloc ?_ _)); exact BK218.out) NB218_214.out (by simp)); have n2_ := Aside0.mk (hb); have n3_ := Aside0.mk (hi); clear BK211; clear BK218; clear HB; clear HI214; have BK211 := n0_; have BK218 := n1_; have HB := n2_; have HI214 := n3_; clear n0_ n1_ n2_ n3_; (try clear hb); (try clear hb2); (try clear hk); (try clear hi); have hnb19 := NB218_211.out; have hnc19 := NB211_218.out; have hnb20 := NB218_214.out; have hnc20 := NB214_218.out; have hcz21_0 : w18.cell? ⟨gb218, 0, none⟩ = some (.int .i64 t215) := (blk_cell BK218.out 0).trans rfl; have hcz21_1 : w18.cell? ⟨gb218, 1, none⟩ = some (.int .i64 0) := (blk_cell BK218.out 1).trans rfl; have hcz21_2 : w18.cell? ⟨gb218, 2, none⟩ = some (.slice none 0 0) := (blk_cell BK218.out 2).trans rfl; have hcz21_3 : w18.cell? ⟨gb218, 3, none⟩ = some (.string (⟨#[]⟩ : ByteArray)) := (blk_cell BK218.out 3).trans rfl; have hcz21_4 : w18.cell? ⟨gb218, 4, none⟩ = some (.slice none 0 0) := (blk_cell BK218.out 4).trans rfl; have hfz21_0 := blk_frozen BK218.out 0; have hfz21_1 := blk_frozen BK218.out 1; have hfz21_2 := blk_frozen BK218.out 2; have hfz21_3 := blk_frozen BK218.out 3; have hfz21_4 := blk_frozen BK218.out 4) | ((with_reducible refine gate_callee (f := 30) rfl ?_); refine goesL_ (some 48) rfl rfl Try.func30 (by kernel_rfl) rfl #[.pointer (some ⟨g214, 0, none⟩)] rfl (by (try simp only [List.map_toArray, List.map_cons, List.map_nil]); first | done | rfl | (simp only [List.length_drop, List.length_take]; rfl)) ?_; (with_reducible refine (octets_Reader_Text.calls k g214 t220 t221 t222 t223 t224 w _ ?side1 ?side2 A17.out).mono ?_); (case side1 => repeat (first | (with_reducible first | exact HI214.out | apply IsS65.alloc | apply IsS65.drewN | apply IsS65.drew | apply IsS65.set_0 | apply IsS65.set_1 | refine IsS65.far ?_ NB214_211.out _ | refine IsS65.far ?_ NB214_218.out _) | exact HI214.out)); (case side2 => repeat (first | (with_reducible first | exact HB.out | apply below_alloc | apply pw_below_drewN | apply below_drew1 | refine below_set ?_ (IsS65.ge HI214.out) | refine below_set ?_ GE211.out | refine below_set ?_ GE218.out) | exact HB.out)); rintro e w22 ⟨rfl, hi, hb, hk⟩; refine ⟨_, rfl, ?_⟩; have n0_ := Aside0.mk (KeepBut.blk hk (g' := gb211) (o := .cells #[.int .i64 0, .int .i64 0, .slice none 0 0, .string (⟨#[]⟩ : ByteArray), .slice none 0 0] 24 (0, 0)) (by (with_reducible repeat (first | refine blk_drewN ?_ _ | refine blk_drew ?_ | refine blk_alloc ?_ _)); refine blk_far ?_ NB211_218.out _; (with_reducible repeat (first | refine blk_drewN ?_ _ | refine blk_drew ?_ | refine blk_alloc ?_ _)); exact BK211.out) NB211_214.out (by simp)); have n1_ := Aside0.mk (KeepBut.blk hk (g' := gb218) (o := .cells #[.int .i64 t215, .int .i64 t219, .slice none 0 0, .string (⟨#[]⟩ : ByteArray), .slice none 0 0] 24 (0, 0)) (by (with_reducible repeat (first | refine blk_drewN ?_ _ | refine blk_drew ?_ | refine blk_alloc ?_ _)); refine blk_put (cs := #[.int .i64 t215, .int .i64 0, .slice none 0 0, .string (⟨#[]⟩ : ByteArray), .slice none 0 0]) ?_ 1 _ rfl; (with_reducible repeat (first | refine blk_drewN ?_ _ | refine blk_drew ?_ | refine blk_alloc ?_ _)); exact BK218.out) NB218_214.out (by simp)); have n2_ := Aside0.mk (hb); have n3_ := Aside0.mk (hi); clear BK211; clear BK218; clear HB; clear HI214; have BK211 := n0_; have BK218 := n1_; have HB := n2_; have HI214 := n3_; clear n0_ n1_ n2_ n3_; (try clear hb); (try clear hb2); (try clear hk); (try clear hi)) | ((with_reducible refine gate_dst (N := 49) rfl ?_); refine Kd.R_lit Kd.string _ 9 ?hg (N := 49) ?hd (xs := ([t222] : List ByteArray)) (inner := [.string t222]) (ok := fun _ => True) (okp := fun _ => True) ?hr ?hp (fun _ hk => hk) trivial (Below.refl _ _) (Nat.le_refl _) (by simp) ?_; (case hd => rfl); (case hg => rfl); (case hr => first | (go_simp; done) | (go_simp; rfl)); (case hp => exact (Reps.one (show Kd.M Kd.string _ _ _ t222 [.string t222] from rfl) (Reps.none _ _))); intro v226 w23 ho24 hb hg_ hnew_; clear hg_ hnew_; (first | rw [← Ny225.out] at ho24 | (simp only [Int.reduceToNat] at ho24; rw [← Ny225.out] at ho24)); have n0_ := Aside0.mk (Kd.R_lower ho24 (below_size (by repeat (first | (with_reducible first | exact HB.out | apply below_alloc | apply pw_below_drewN | apply below_drew1 | refine below_set ?_ (IsS65.ge HI214.out) | refine below_set ?_ GE211.out | refine below_set ?_ GE218.out) | exact HB.out)))); have n1_ := Aside0.mk (blk_below (g := gb211) (o := .cells #[.int .i64 0, .int .i64 0, .slice none 0 0, .string (⟨#[]⟩ : ByteArray), .slice none 0 0] 24 (0, 0)) (by (with_reducible repeat (first | refine blk_drewN ?_ _ | refine blk_drew ?_ | refine blk_alloc ?_ _)); exact BK211.out) hb); have n2_ := Aside0.mk (IsS65.below (by repeat (first | (with_reducible first | exact HI214.out | apply IsS65.alloc | apply IsS65.drewN | apply IsS65.drew | apply IsS65.set_0 | apply IsS65.set_1 | refine IsS65.far ?_ NB214_211.out _ | refine IsS65.far ?_ NB214_218.out _) | exact HI214.out)) hb); have n3_ := Aside0.mk (blk_below (g := gb218) (o := .cells #[.int .i64 t215, .int .i64 t219, .slice none 0 0, .string (⟨#[]⟩ : ByteArray), .slice none 0 0] 24 (0, 0)) (by (with_reducible repeat (first | refine blk_drewN ?_ _ | refine blk_drew ?_ | refine blk_alloc ?_ _)); exact BK218.out) hb); have n4_ := Aside0.mk (below_step (by repeat (first | (with_reducible first | exact HB.out | apply below_alloc | apply pw_below_drewN | apply below_drew1 | refine below_set ?_ (IsS65.ge HI214.out) | refine below_set ?_ GE211.out | refine below_set ?_ GE218.out) | exact HB.out)) hb); clear BK211; clear HI214; clear BK218; clear HB; have HO227 := n0_; have BK211 := n1_; have HI214 := n2_; have BK218 := n3_; have HB := n4_; clear n0_ n1_ n2_ n3_ n4_; clear hb ho24; obtain ⟨Ao25, co25, eo25⟩ := Kd.R_slice HO227.out; subst eo25; have hcz26_0 : w23.cell? ⟨gb218, 0, none⟩ = some (.int .i64 t215) := (blk_cell BK218.out 0).trans rfl; have hcz26_1 : w23.cell? ⟨gb218, 1, none⟩ = some (.int .i64 t219) := (blk_cell BK218.out 1).trans rfl; have hcz26_2 : w23.cell? ⟨gb218, 2, none⟩ = some (.slice none 0 0) := (blk_cell BK218.out 2).trans rfl; have hcz26_3 : w23.cell? ⟨gb218, 3, none⟩ = some (.string (⟨#[]⟩ : ByteArray)) := (blk_cell BK218.out 3).trans rfl; have hcz26_4 : w23.cell? ⟨gb218, 4, none⟩ = some (.slice none 0 0) := (blk_cell BK218.out 4).trans rfl; have hfz26_0 := blk_frozen BK218.out 0; have hfz26_1 := blk_frozen BK218.out 1; have hfz26_2 := blk_frozen BK218.out 2; have hfz26_3 := blk_frozen BK218.out 3; have hfz26_4 := blk_frozen BK218.out 4))
        go_meet
        case rel => exact ⟨_, (t223), (t224), (t219), (([] : List ByteArray)), ((⟨#[]⟩ : ByteArray)), (y225), (.slice none 0 0), (.slice Ao25 y225.length co25), H', ⟨by first | omega | exact Nat.le_refl _⟩, ⟨by first | exact Kd.R_nil _ _ _ _ _ | exact Kd.N_nil _ _ _ _ _ | exact Kd.V_nil _ _ _ _ _ | exact Kd.Q_nil _ _ _ _ _ | exact Kd.S_nil _ _ _ _ _⟩, ⟨by (with_reducible repeat (first | apply Kd.R_alloc | apply Kd.R_drewN | apply Kd.R_drew)); exact Kd.R_mono (Kd.R_far (p := ⟨gb218, 4, none⟩) (Kd.R_types HO227.out BK218.out (by decide)) (fun _ hk => hk.2) (.slice Ao25 y225.length co25)) (fun _ hk => (by simp [Value.ownBlock]))⟩, ⟨by (with_reducible repeat (first | refine blk_drewN ?_ _ | refine blk_drew ?_ | refine blk_alloc ?_ _)); refine blk_far ?_ NB211_218.out _; (with_reducible repeat (first | refine blk_drewN ?_ _ | refine blk_drew ?_ | refine blk_alloc ?_ _)); exact BK211.out⟩, ⟨by (with_reducible repeat (first | refine blk_drewN ?_ _ | refine blk_drew ?_ | refine blk_alloc ?_ _)); refine blk_put (cs := #[.int .i64 t215, .int .i64 t219, .slice none 0 0, .string (⟨#[]⟩ : ByteArray), .slice none 0 0]) ?_ 4 _ rfl; (with_reducible repeat (first | refine blk_drewN ?_ _ | refine blk_drew ?_ | refine blk_alloc ?_ _)); exact BK218.out⟩, ⟨by repeat (first | (with_reducible first | exact HI214.out | apply IsS65.alloc | apply IsS65.drewN | apply IsS65.drew | apply IsS65.set_0 | apply IsS65.set_1 | refine IsS65.far ?_ NB214_211.out _ | refine IsS65.far ?_ NB214_218.out _) | exact HI214.out)⟩, ⟨by repeat (first | (with_reducible first | exact HB.out | apply below_alloc | apply pw_below_drewN | apply below_drew1 | refine below_set ?_ (IsS65.ge HI214.out) | refine below_set ?_ GE211.out | refine below_set ?_ GE218.out) | exact HB.out)⟩⟩
      · rw [if_neg c15] at H
        have c15b0 : (t215 == 5) = false := beq_eq_false_iff_ne.mpr c15
        have c15b1 : (t215 != 5) = true := bne_iff_ne.mpr c15
        (first | rw [c15b0] | (simp only [i64_w, i32_w]; rw [c15b0]) | skip)
        by_cases c27 : t215 = 4
        · rw [if_pos c27] at H
          have c27b0 : (t215 == 4) = true := beq_iff_eq.mpr c27
          have c27b1 : (t215 != 4) = false := bne_eq_false_iff_eq.mpr c27
          clear c27
          replace H := Option.bind_eq_some_iff.mp H
          obtain ⟨⟨t228, t229, t230⟩, A280, H⟩ := H
          replace H : (frame_Decode.l0 k t228 t229 t230 t215 0 (⟨#[]⟩ : ByteArray) ([] : List ByteArray)) = some (r1, r2, r3, r4, r5, r6) := H
          have A28 := Aside0.mk A280
          clear A280
          have H' := Aside0.mk H
          clear H
          go_wp2_with (first | ((with_reducible refine gate_callee (f := 29) rfl ?_); refine goesL_ (some 54) rfl rfl Try.func29 (by kernel_rfl) rfl #[.pointer (some ⟨g214, 0, none⟩)] rfl (by (try simp only [List.map_toArray, List.map_cons, List.map_nil]); first | done | rfl | (simp only [List.length_drop, List.length_take]; rfl)) ?_; (with_reducible refine (octets_Reader_Byte.calls k g214 t216 t217 t228 t229 t230 w _ ?side1 ?side2 A28.out).mono ?_); (case side1 => repeat (first | (with_reducible first | exact HI214.out | apply IsS65.alloc | apply IsS65.drewN | apply IsS65.drew | apply IsS65.set_0 | apply IsS65.set_1 | refine IsS65.far ?_ NB214_211.out _ | refine IsS65.far ?_ NB214_218.out _) | exact HI214.out)); (case side2 => repeat (first | (with_reducible first | exact HB.out | apply below_alloc | apply pw_below_drewN | apply below_drew1 | refine below_set ?_ (IsS65.ge HI214.out) | refine below_set ?_ GE211.out | refine below_set ?_ GE218.out) | exact HB.out)); rintro e w29 ⟨rfl, hi, hb, hk⟩; refine ⟨_, rfl, ?_⟩; have n0_ := Aside0.mk (KeepBut.blk hk (g' := gb211) (o := .cells #[.int .i64 0, .int .i64 0, .slice none 0 0, .string (⟨#[]⟩ : ByteArray), .slice none 0 0] 24 (0, 0)) (by (with_reducible repeat (first | refine blk_drewN ?_ _ | refine blk_drew ?_ | refine blk_alloc ?_ _)); refine blk_far ?_ NB211_218.out _; (with_reducible repeat (first | refine blk_drewN ?_ _ | refine blk_drew ?_ | refine blk_alloc ?_ _)); refine blk_far ?_ NB211_218.out _; (with_reducible repeat (first | refine blk_drewN ?_ _ | refine blk_drew ?_ | refine blk_alloc ?_ _)); refine blk_far ?_ NB211_218.out _; (with_reducible repeat (first | refine blk_drewN ?_ _ | refine blk_drew ?_ | refine blk_alloc ?_ _)); refine blk_far ?_ NB211_218.out _; (with_reducible repeat (first | refine blk_drewN ?_ _ | refine blk_drew ?_ | refine blk_alloc ?_ _)); refine blk_far ?_ NB211_218.out _; (with_reducible repeat (first | refine blk_drewN ?_ _ | refine blk_drew ?_ | refine blk_alloc ?_ _)); exact BK211.out) NB211_214.out (by simp)); have n1_ := Aside0.mk (KeepBut.blk hk (g' := gb218) (o := .cells #[.int .i64 t215, .int .i64 0, .slice none 0 0, .string (⟨#[]⟩ : ByteArray), .slice none 0 0] 24 (0, 0)) (by (with_reducible repeat (first | refine blk_drewN ?_ _ | refine blk_drew ?_ | refine blk_alloc ?_ _)); refine blk_put (cs := #[.int .i64 t215, .int .i64 0, .slice none 0 0, .string (⟨#[]⟩ : ByteArray), .slice none 0 0]) ?_ 4 _ rfl; (with_reducible repeat (first | refine blk_drewN ?_ _ | refine blk_drew ?_ | refine blk_alloc ?_ _)); refine blk_put (cs := #[.int .i64 t215, .int .i64 0, .slice none 0 0, .string (⟨#[]⟩ : ByteArray), .slice none 0 0]) ?_ 3 _ rfl; (with_reducible repeat (first | refine blk_drewN ?_ _ | refine blk_drew ?_ | refine blk_alloc ?_ _)); refine blk_put (cs := #[.int .i64 t215, .int .i64 0, .slice none 0 0, .string (⟨#[]⟩ : ByteArray), .slice none 0 0]) ?_ 2 _ rfl; (with_reducible repeat (first | refine blk_drewN ?_ _ | refine blk_drew ?_ | refine blk_alloc ?_ _)); refine blk_put (cs := #[.int .i64 t215, .int .i64 0, .slice none 0 0, .string (⟨#[]⟩ : ByteArray), .slice none 0 0]) ?_ 1 _ rfl; (with_reducible repeat (first | refine blk_drewN ?_ _ | refine blk_drew ?_ | refine blk_alloc ?_ _)); refine blk_put (cs := #[.int .i64 0, .int .i64 0, .slice none 0 0, .string (⟨#[]⟩ : ByteArray), .slice none 0 0]) ?_ 0 _ rfl; (with_reducible repeat (first | refine blk_drewN ?_ _ | refine blk_drew ?_ | refine blk_alloc ?_ _)); exact BK218.out) NB218_214.out (by simp)); have n2_ := Aside0.mk (hb); have n3_ := Aside0.mk (hi); clear BK211; clear BK218; clear HB; clear HI214; have BK211 := n0_; have BK218 := n1_; have HB := n2_; have HI214 := n3_; clear n0_ n1_ n2_ n3_; (try clear hb); (try clear hb2); (try clear hk); (try clear hi)))
          go_loopg [6] k (fun kq v6 w' => ∃ (x6_1 : Int) (x215000_1 : ByteArray) (x215001_1 : Bool) (x219004_1 : List ByteArray) (u219004 : Value), v6 = .int .i64 x6_1 ∧ Aside0 (frame_Decode.l0 kq x6_1 x215000_1 x215001_1 t215 0 (⟨#[]⟩ : ByteArray) x219004_1 = some (r1, r2, r3, r4, r5, r6)) ∧ Aside0 (kq ≤ k) ∧ Aside0 (Kd.R Kd.string 9 w' w.heap.size (fun _ => True) u219004 x219004_1) ∧ Aside0 (w'.heap[gb211]? = some (.cells #[.int .i64 0, .int .i64 0, (.slice none 0 0), .string (⟨#[]⟩ : ByteArray), (.slice none 0 0)] 24 (0, 0))) ∧ Aside0 (w'.heap[gb218]? = some (.cells #[.int .i64 t215, .int .i64 0, (.slice none 0 0), .string (⟨#[]⟩ : ByteArray), u219004] 24 (0, 0))) ∧ Aside0 (IsS65 w w' g214 x215000_1 x215001_1) ∧ Aside0 (Below w.heap.size w w'))
          case atStart => exact ⟨(t228), (t229), (t230), (([] : List ByteArray)), (.slice none 0 0), (by first | rfl | (simp; done) | (simp [*]; done) | exact congrArg Value.bool (nonempty_l _) | (refine congrArg (Value.int _) ?_; first | omega | (unfold Go.RowKit.wrap64; omega))), H', ⟨Nat.le_refl _⟩, ⟨by first | exact Kd.R_nil _ _ _ _ _ | exact Kd.N_nil _ _ _ _ _ | exact Kd.V_nil _ _ _ _ _ | exact Kd.Q_nil _ _ _ _ _ | exact Kd.S_nil _ _ _ _ _⟩, ⟨by (with_reducible repeat (first | refine blk_drewN ?_ _ | refine blk_drew ?_ | refine blk_alloc ?_ _)); exact BK211.out⟩, ⟨by (with_reducible repeat (first | refine blk_drewN ?_ _ | refine blk_drew ?_ | refine blk_alloc ?_ _)); exact BK218.out⟩, ⟨by repeat (first | (with_reducible first | exact HI214.out | apply IsS65.alloc | apply IsS65.drewN | apply IsS65.drew | apply IsS65.set_0 | apply IsS65.set_1 | refine IsS65.far ?_ NB214_211.out _ | refine IsS65.far ?_ NB214_218.out _) | exact HI214.out)⟩, ⟨by repeat (first | (with_reducible first | exact HB.out | apply below_alloc | apply pw_below_drewN | apply below_drew1 | refine below_set ?_ (IsS65.ge HI214.out) | refine below_set ?_ GE211.out | refine below_set ?_ GE218.out) | exact HB.out)⟩⟩
          case round =>
            clear H'
            try clear c1
            try clear c2
            try clear c2b0
            try clear c2b1
            try clear p2
            try clear c3
            try clear p6
            try clear c12
            try clear c13
            try clear c15
            try clear c15b0
            try clear c15b1
            try clear c19
            try clear c20
            try clear c27
            try clear c27b0
            try clear c27b1
            try clear c28
            try clear c29
            try clear hcz14_0
            try clear hcz14_1
            try clear hcz14_2
            try clear hcz14_3
            try clear hcz14_4
            try clear hcz21_0
            try clear hcz21_1
            try clear hcz21_2
            try clear hcz21_3
            try clear hcz21_4
            try clear hcz26_0
            try clear hcz26_1
            try clear hcz26_2
            try clear hcz26_3
            try clear hcz26_4
            try clear hcz4_0
            try clear hcz4_1
            try clear hcz4_2
            try clear hcz4_3
            try clear hcz4_4
            try clear hfz14_0
            try clear hfz14_1
            try clear hfz14_2
            try clear hfz14_3
            try clear hfz14_4
            try clear hfz21_0
            try clear hfz21_1
            try clear hfz21_2
            try clear hfz21_3
            try clear hfz21_4
            try clear hfz26_0
            try clear hfz26_1
            try clear hfz26_2
            try clear hfz26_3
            try clear hfz26_4
            try clear hfz4_0
            try clear hfz4_1
            try clear hfz4_2
            try clear hfz4_3
            try clear hfz4_4
            obtain ⟨x6_1, x215000_1, x215001_1, x219004_1, u219004, rfl, HA, HK1, HO_219004, BK211, BK218, HI214, HB⟩ := hrel
            cases gk with
            | zero => exact absurd HA.out (by simp [frame_Decode.l0])
            | succ k1 =>
              have H := HA.out
              clear HA
              simp only [frame_Decode.l0] at H
              by_cases c30 : x6_1 > 0
              · rw [if_pos c30] at H
                have c30b0 : decide (0 < x6_1) = true := decide_eq_true c30
                clear c30
                replace H := Option.bind_eq_some_iff.mp H
                obtain ⟨⟨t231, t232, t233⟩, A310, H⟩ := H
                replace H : (if t231 = true then ((octets_Reader_Text.f k1 t232 t233).bind fun bt234 => (if x219004_1.length < 8796093022208 then (frame_Decode.l0 k1 (wrap64 (x6_1 - 1)) bt234.2.1 bt234.2.2 t215 0 (⟨#[]⟩ : ByteArray) (x219004_1 ++ [bt234.1])) else (none))) else (frame_Decode.j2 k1 t232 t233 t215 0 ([] : List ByteArray) (⟨#[]⟩ : ByteArray) x219004_1)) = some (r1, r2, r3, r4, r5, r6) := H
                have A31 := Aside0.mk A310
                clear A310
                by_cases c32 : t231 = true
                · subst c32
                  have H1 : ((octets_Reader_Text.f k1 t232 t233).bind fun bt234 => (if x219004_1.length < 8796093022208 then (frame_Decode.l0 k1 (wrap64 (x6_1 - 1)) bt234.2.1 bt234.2.2 t215 0 (⟨#[]⟩ : ByteArray) (x219004_1 ++ [bt234.1])) else (none))) = some (r1, r2, r3, r4, r5, r6) := by rw [if_pos rfl] at H; exact H
                  clear H
                  have H := H1
                  clear H1
                  replace H := Option.bind_eq_some_iff.mp H
                  obtain ⟨⟨t234, t235, t236⟩, A330, H⟩ := H
                  replace H : (if x219004_1.length < 8796093022208 then (frame_Decode.l0 k1 (wrap64 (x6_1 - 1)) t235 t236 t215 0 (⟨#[]⟩ : ByteArray) (x219004_1 ++ [t234])) else (none)) = some (r1, r2, r3, r4, r5, r6) := H
                  have A33 := Aside0.mk A330
                  clear A330
                  by_cases c34 : x219004_1.length < 8796093022208
                  · rw [if_pos c34] at H
                    have LMc34 := Aside0.mk c34
                    clear c34
                    obtain ⟨y237, hy237⟩ : ∃ y_ : List ByteArray, y_ = (x219004_1 ++ [t234]) := ⟨_, rfl⟩
                    replace H : (frame_Decode.l0 k1 (wrap64 (x6_1 - 1)) t235 t236 t215 0 (⟨#[]⟩ : ByteArray) y237) = some (r1, r2, r3, r4, r5, r6) := by first | (rw [hy237]; with_reducible exact H) | (have H2_ := (Option.bind_some _ _).symm.trans H; rw [hy237]; with_reducible exact H2_) | (have H2_ := (Option.bind_some _ _).symm.trans H; with_reducible exact H2_) | with_reducible exact H | (rw [hy237]; exact H) | exact H
                    have Ny237 := Aside0.mk hy237
                    clear hy237
                    have H' := Aside0.mk H
                    clear H
                    try go_wp2_with (first | (go_at_call 31; (with_reducible refine (octets_Reader_Good.calls g214 x215000_1 x215001_1 true t232 t233 w _ ?side1 ?side2 A31.out).mono ?_); (case side1 => repeat (first | (with_reducible first | exact HI214.out | apply IsS65.alloc | apply IsS65.drewN | apply IsS65.drew | apply IsS65.set_0 | apply IsS65.set_1 | refine IsS65.far ?_ NB214_211.out _ | refine IsS65.far ?_ NB214_218.out _) | exact HI214.out)); (case side2 => repeat (first | (with_reducible first | exact HB.out | apply below_alloc | apply pw_below_drewN | apply below_drew1 | refine below_set ?_ (IsS65.ge HI214.out) | refine below_set ?_ GE211.out | refine below_set ?_ GE218.out) | exact HB.out)); rintro e w35 ⟨rfl, hi, hb, hk⟩; have n0_ := Aside0.mk (Kd.R_mono (Kd.R_keep (IsS65.apart (show IsS65 w _ g214 x215000_1 x215001_1 from by repeat (first | (with_reducible first | exact HI214.out | apply IsS65.alloc | apply IsS65.drewN | apply IsS65.drew | apply IsS65.set_0 | apply IsS65.set_1 | refine IsS65.far ?_ NB214_211.out _ | refine IsS65.far ?_ NB214_218.out _) | exact HI214.out)) (by (with_reducible repeat (first | apply Kd.R_alloc | apply Kd.R_drewN | apply Kd.R_drew)); exact HO_219004.out) (by decide)) hk (fun _ h => h.2)) (fun _ h => h.1)); have n1_ := Aside0.mk (KeepBut.blk hk (g' := gb211) (o := .cells #[.int .i64 0, .int .i64 0, .slice none 0 0, .string (⟨#[]⟩ : ByteArray), .slice none 0 0] 24 (0, 0)) (by (with_reducible repeat (first | refine blk_drewN ?_ _ | refine blk_drew ?_ | refine blk_alloc ?_ _)); exact BK211.out) NB211_214.out (by simp)); have n2_ := Aside0.mk (KeepBut.blk hk (g' := gb218) (o := .cells #[.int .i64 t215, .int .i64 0, .slice none 0 0, .string (⟨#[]⟩ : ByteArray), u219004] 24 (0, 0)) (by (with_reducible repeat (first | refine blk_drewN ?_ _ | refine blk_drew ?_ | refine blk_alloc ?_ _)); exact BK218.out) NB218_214.out (by simp)); have n3_ := Aside0.mk (hb); have n4_ := Aside0.mk (hi); clear HO_219004; clear BK211; clear BK218; clear HB; clear HI214; have HO_219004 := n0_; have BK211 := n1_; have BK218 := n2_; have HB := n3_; have HI214 := n4_; clear n0_ n1_ n2_ n3_ n4_; (try clear hb); (try clear hb2); (try clear hk); (try clear hi)))
                    have n0_ := Aside0.mk (Kd.R_drew HO_219004.out)
                    have n1_ := Aside0.mk (blk_drew BK211.out)
                    have n2_ := Aside0.mk (blk_drew BK218.out)
                    have n3_ := Aside0.mk (IsS65.drew HI214.out)
                    have n4_ := Aside0.mk (below_drew1 HB.out)
                    clear HO_219004
                    clear BK211
                    clear BK218
                    clear HI214
                    clear HB
                    have HO_219004 := n0_
                    have BK211 := n1_
                    have BK218 := n2_
                    have HI214 := n3_
                    have HB := n4_
                    clear n0_ n1_ n2_ n3_ n4_
                    refine start_ (n := 8) (S := fun w' => w'.cell? ⟨gb218, 0, none⟩ = some (.int .i64 t215) ∧ w'.cell? ⟨gb218, 1, none⟩ = some (.int .i64 0) ∧ w'.cell? ⟨gb218, 2, none⟩ = some (.slice none 0 0) ∧ w'.cell? ⟨gb218, 3, none⟩ = some (.string (⟨#[]⟩ : ByteArray)) ∧ w'.cell? ⟨gb218, 4, none⟩ = some (u219004)) (ds := [7]) #[false, false, false, false, false, false, false, false] (by kernel_rfl) rfl rfl ⟨(blk_cell BK218.out 0).trans rfl, (blk_cell BK218.out 1).trans rfl, (blk_cell BK218.out 2).trans rfl, (blk_cell BK218.out 3).trans rfl, (blk_cell BK218.out 4).trans rfl⟩ (fun hHeld => ?_); refine with_tabW frame_Decode.tab19 frame_Decode.bits19 (fun HT_ HW_ => ?_)
                    generalize w35.drew = w36 at HO_219004 BK211 BK218 HI214 HB hHeld ⊢
                    refine pure_ (i := 0) (N := some 63) (v := ?_) (a' := ?_) #[true, false, false, false, false, false, false, false] rfl rfl (any_of HT_.out (by kernel_rfl)) (fun _ _ _ h => h) (Or.inl ⟨by rfl, ?_⟩) ?_ ?_
                    rotate_left
                    · intro w'
                      go_simp
                      with_reducible rfl
                    rotate_left
                    · simp only [Act.put, List.setIfInBounds_toArray, List.set_cons_zero, List.set_cons_succ, i64_w, i32_w]
                      rfl
                    refine pure_ (i := 2) (N := some 65) (v := ?_) (a' := ?_) #[true, false, true, false, false, false, false, false] rfl rfl (any_of HT_.out (by kernel_rfl)) (fun _ _ _ h => h) (Or.inl ⟨by rfl, ?_⟩) ?_ ?_
                    rotate_left
                    · intro w'
                      go_simp
                      with_reducible rfl
                    rotate_left
                    · simp only [Act.put, List.setIfInBounds_toArray, List.set_cons_zero, List.set_cons_succ, i64_w, i32_w]
                      rfl
                    refine take_ (i := 1) (N := some 64) (v := ?_) (a' := ?_) #[true, true, true, false, false, false, false, false] rfl rfl (take_ofW HT_.out HW_.out (by kernel_rfl)) (fun _ _ _ h => h) (Or.inl ⟨by rfl, ?_⟩) hHeld ?_ ?_
                    rotate_left
                    · rintro w' ⟨s0, s1, s2, s3, s4⟩
                      go_simp
                      with_reducible rfl
                    rotate_left
                    · simp only [Act.put, List.setIfInBounds_toArray, List.set_cons_zero, List.set_cons_succ, i64_w, i32_w]
                      rfl
                    refine one_ (i := 3) (N := some 66) #[true, true, true, true, false, false, false, false] rfl rfl (one_of HT_.out (by kernel_rfl)) (by decide) (fun K hK => ?_)
                    refine goes_ Try.func30 (by kernel_rfl) rfl #[.pointer (some ⟨g214, 0, none⟩)] (by rfl) rfl rfl (by (try simp only [List.map_toArray, List.map_cons, List.map_nil]); first | done | rfl | (simp only [List.length_drop, List.length_take]; rfl)) ?_
                    with_reducible refine (octets_Reader_Text.calls k1 g214 t232 t233 t234 t235 t236 w _ ?side1 ?side2 A33.out).mono ?_
                    (case side1 => repeat (first | (with_reducible first | exact HI214.out | apply IsS65.alloc | apply IsS65.drewN | apply IsS65.drew | apply IsS65.set_0 | apply IsS65.set_1 | refine IsS65.far ?_ NB214_211.out _ | refine IsS65.far ?_ NB214_218.out _) | exact HI214.out))
                    (case side2 => repeat (first | (with_reducible first | exact HB.out | apply below_alloc | apply pw_below_drewN | apply below_drew1 | refine below_set ?_ (IsS65.ge HI214.out) | refine below_set ?_ GE211.out | refine below_set ?_ GE218.out) | exact HB.out))
                    rintro e w37 ⟨rfl, hi, hb, hk⟩
                    refine ⟨_, rfl, ?_⟩
                    have n0_ := Aside0.mk (Kd.R_mono (Kd.R_keep (IsS65.apart (show IsS65 w _ g214 t232 t233 from by repeat (first | (with_reducible first | exact HI214.out | apply IsS65.alloc | apply IsS65.drewN | apply IsS65.drew | apply IsS65.set_0 | apply IsS65.set_1 | refine IsS65.far ?_ NB214_211.out _ | refine IsS65.far ?_ NB214_218.out _) | exact HI214.out)) (by (with_reducible repeat (first | apply Kd.R_alloc | apply Kd.R_drewN | apply Kd.R_drew)); exact HO_219004.out) (by decide)) hk (fun _ h => h.2)) (fun _ h => h.1))
                    have n1_ := Aside0.mk (KeepBut.blk hk (g' := gb211) (o := .cells #[.int .i64 0, .int .i64 0, .slice none 0 0, .string (⟨#[]⟩ : ByteArray), .slice none 0 0] 24 (0, 0)) (by (with_reducible repeat (first | refine blk_drewN ?_ _ | refine blk_drew ?_ | refine blk_alloc ?_ _)); exact BK211.out) NB211_214.out (by simp))
                    have n2_ := Aside0.mk (KeepBut.blk hk (g' := gb218) (o := .cells #[.int .i64 t215, .int .i64 0, .slice none 0 0, .string (⟨#[]⟩ : ByteArray), u219004] 24 (0, 0)) (by (with_reducible repeat (first | refine blk_drewN ?_ _ | refine blk_drew ?_ | refine blk_alloc ?_ _)); exact BK218.out) NB218_214.out (by simp))
                    have n3_ := Aside0.mk (hb)
                    have n4_ := Aside0.mk (hi)
                    clear HO_219004
                    clear BK211
                    clear BK218
                    clear HB
                    clear HI214
                    have HO_219004 := n0_
                    have BK211 := n1_
                    have BK218 := n2_
                    have HB := n3_
                    have HI214 := n4_
                    clear n0_ n1_ n2_ n3_ n4_
                    (try clear hb)
                    (try clear hb2)
                    (try clear hk)
                    (try clear hi)
                    refine hK.out _ _ ⟨(blk_cell BK218.out 0).trans rfl, (blk_cell BK218.out 1).trans rfl, (blk_cell BK218.out 2).trans rfl, (blk_cell BK218.out 3).trans rfl, (blk_cell BK218.out 4).trans rfl⟩ (fun hHeld => ?_)
                    clear hK K
                    refine norm_ (a' := ?_) ?_ ?_
                    rotate_left
                    · show Act.put _ (some 66) _ = _
                      simp only [Act.put, List.setIfInBounds_toArray, List.set_cons_zero, List.set_cons_succ, i64_w, i32_w]
                      rfl
                    refine one_ (i := 4) (N := some 67) #[true, true, true, true, true, false, false, false] rfl rfl (one_of HT_.out (by kernel_rfl)) (by decide) (fun K hK => ?_)
                    refine value_ (w1 := ?_) (v := ?_) (by rfl) rfl ?_ ?_
                    rotate_left 2
                    · go_simp
                      constructor
                      · rfl
                      · rfl
                    refine hK.out _ _ ⟨(blk_cell (blk_alloc BK218.out _) 0).trans rfl, (blk_cell (blk_alloc BK218.out _) 1).trans rfl, (blk_cell (blk_alloc BK218.out _) 2).trans rfl, (blk_cell (blk_alloc BK218.out _) 3).trans rfl, (blk_cell (blk_alloc BK218.out _) 4).trans rfl⟩ (fun hHeld => ?_)
                    clear hK K
                    refine norm_ (a' := ?_) ?_ ?_
                    rotate_left
                    · show Act.put _ (some 67) _ = _
                      simp only [Act.put, List.setIfInBounds_toArray, List.set_cons_zero, List.set_cons_succ, i64_w, i32_w]
                      rfl
                    refine one_ (i := 5) (N := some 68) #[true, true, true, true, true, true, false, false] rfl rfl (one_of HT_.out (by kernel_rfl)) (by decide) (fun K hK => ?_)
                    refine Kd.R_append_step Kd.string (w0 := w) w.heap.size (by rfl) (.tmp 64) (.tmp 67) 22 9 (.string ⟨#[]⟩) 16 rfl Try.underlying22 info9 rfl (by decide) (by omega) u219004 x219004_1 t234 [.string t234] (fun _ => True) (fun _ => False) rfl rfl ?aP (fun _ hk => hk.elim) ?aF ?aO ?aB ?aS ?aL ?_
                    (case aP => exact rfl)
                    (case aB => exact (by repeat (first | (with_reducible first | exact HB.out | apply below_alloc | apply pw_below_drewN | apply below_drew1 | refine below_set ?_ (IsS65.ge HI214.out) | refine below_set ?_ GE211.out | refine below_set ?_ GE218.out) | exact HB.out)))
                    (case aF => exact (fun _ _ => trivial))
                    (case aO => exact (by (with_reducible repeat (first | apply Kd.R_alloc | apply Kd.R_drewN | apply Kd.R_drew)); exact HO_219004.out))
                    (case aS => exact (below_size (by repeat (first | (with_reducible first | exact HB.out | apply below_alloc | apply pw_below_drewN | apply below_drew1 | refine below_set ?_ (IsS65.ge HI214.out) | refine below_set ?_ GE211.out | refine below_set ?_ GE218.out) | exact HB.out))))
                    (case aL => have := LMc34.out; omega)
                    intro v238 w38 ho hb hg hat
                    rw [← Ny237.out] at ho
                    have n0_ := Aside0.mk (blk_grown (g := gb211) (o := .cells #[.int .i64 0, .int .i64 0, .slice none 0 0, .string (⟨#[]⟩ : ByteArray), .slice none 0 0] 24 (0, 0)) (by (with_reducible repeat (first | refine blk_drewN ?_ _ | refine blk_drew ?_ | refine blk_alloc ?_ _)); exact BK211.out) hg (Kd.R_ne HO_219004.out BK211.out (by decide)))
                    have n1_ := Aside0.mk (blk_grown (g := gb218) (o := .cells #[.int .i64 t215, .int .i64 0, .slice none 0 0, .string (⟨#[]⟩ : ByteArray), u219004] 24 (0, 0)) (by (with_reducible repeat (first | refine blk_drewN ?_ _ | refine blk_drew ?_ | refine blk_alloc ?_ _)); exact BK218.out) hg (Kd.R_ne HO_219004.out BK218.out (by decide)))
                    have n2_ := Aside0.mk (IsS65.grown (by repeat (first | (with_reducible first | exact HI214.out | apply IsS65.alloc | apply IsS65.drewN | apply IsS65.drew | apply IsS65.set_0 | apply IsS65.set_1 | refine IsS65.far ?_ NB214_211.out _ | refine IsS65.far ?_ NB214_218.out _) | exact HI214.out)) hg (IsS65.own_ne HI214.out HO_219004.out (by decide)))
                    have n3_ := Aside0.mk (hb)
                    have n4_ := Aside0.mk (ho)
                    clear BK211
                    clear BK218
                    clear HI214
                    clear HB
                    clear HO_219004
                    have BK211 := n0_
                    have BK218 := n1_
                    have HI214 := n2_
                    have HB := n3_
                    have HO239 := n4_
                    clear n0_ n1_ n2_ n3_ n4_
                    clear ho hb hg hat
                    obtain ⟨Ao39, co39, eo39⟩ := Kd.R_slice HO239.out
                    (first | subst eo39 | (injection eo39 with f1_ f2_ f3_; have f4_ := f1_.symm; have f5_ := f3_.symm; clear f1_ f2_ f3_; subst f4_; subst f5_))
                    refine hK.out _ _ ⟨(blk_cell BK218.out 0).trans rfl, (blk_cell BK218.out 1).trans rfl, (blk_cell BK218.out 2).trans rfl, (blk_cell BK218.out 3).trans rfl, (blk_cell BK218.out 4).trans rfl⟩ (fun hHeld => ?_)
                    clear hK K
                    refine norm_ (a' := ?_) ?_ ?_
                    rotate_left
                    · show Act.put _ (some 68) _ = _
                      simp only [Act.put, List.setIfInBounds_toArray, List.set_cons_zero, List.set_cons_succ, i64_w, i32_w]
                      rfl
                    refine pure_ (i := 6) (N := some 69) (v := ?_) (a' := ?_) #[true, true, true, true, true, true, true, false] rfl rfl (any_of HT_.out (by kernel_rfl)) (fun _ _ _ h => h) (Or.inl ⟨by rfl, ?_⟩) ?_ ?_
                    rotate_left
                    · intro w'
                      go_simp
                      with_reducible rfl
                    rotate_left
                    · simp only [Act.put, List.setIfInBounds_toArray, List.set_cons_zero, List.set_cons_succ, i64_w, i32_w]
                      rfl
                    refine last_ (i := 7) (N := none) #[true, true, true, true, true, true, true, true] rfl rfl (one_of HT_.out (by kernel_rfl)) (by decide) (fun K hK => ?_)
                    have hs40 : w38.cell? ⟨gb218, 4, none⟩ = some (u219004) := (blk_cell BK218.out 4).trans rfl
                    have hfs40 := blk_frozen BK218.out 4
                    have hns40_0 := NB211_218.out
                    have hms40_0 := NB218_211.out
                    refine skip_ (w1 := ?_) (by rfl) rfl ?_ ?_
                    rotate_left
                    · go_simp
                      rfl
                    refine hK.out _ _ ?_
                    clear hK K
                    refine done_ (done_of HT_.out (by kernel_rfl)) ?_
                    try go_wp2
                    go_roundg k1
                    case measure => have := HK1.out; omega
                    case rel => exact ⟨(wrap64 (x6_1 - 1)), (t235), (t236), (y237), (.slice Ao39 y237.length co39), (by first | rfl | (simp; done) | (simp [*]; done) | exact congrArg Value.bool (nonempty_l _) | (refine congrArg (Value.int _) ?_; first | omega | (unfold Go.RowKit.wrap64; omega))), H', ⟨by have := HK1.out; omega⟩, ⟨by (with_reducible repeat (first | apply Kd.R_alloc | apply Kd.R_drewN | apply Kd.R_drew)); exact Kd.R_mono (Kd.R_far (p := ⟨gb218, 4, none⟩) (Kd.R_types HO239.out BK218.out (by decide)) (fun _ hk => hk.2) (.slice Ao39 y237.length co39)) (fun _ hk => trivial)⟩, ⟨by (with_reducible repeat (first | refine blk_drewN ?_ _ | refine blk_drew ?_ | refine blk_alloc ?_ _)); refine blk_far ?_ NB211_218.out _; (with_reducible repeat (first | refine blk_drewN ?_ _ | refine blk_drew ?_ | refine blk_alloc ?_ _)); exact BK211.out⟩, ⟨by (with_reducible repeat (first | refine blk_drewN ?_ _ | refine blk_drew ?_ | refine blk_alloc ?_ _)); refine blk_put (cs := #[.int .i64 t215, .int .i64 0, .slice none 0 0, .string (⟨#[]⟩ : ByteArray), u219004]) ?_ 4 _ rfl; (with_reducible repeat (first | refine blk_drewN ?_ _ | refine blk_drew ?_ | refine blk_alloc ?_ _)); exact BK218.out⟩, ⟨by repeat (first | (with_reducible first | exact HI214.out | apply IsS65.alloc | apply IsS65.drewN | apply IsS65.drew | apply IsS65.set_0 | apply IsS65.set_1 | refine IsS65.far ?_ NB214_211.out _ | refine IsS65.far ?_ NB214_218.out _) | exact HI214.out)⟩, ⟨by repeat (first | (with_reducible first | exact HB.out | apply below_alloc | apply pw_below_drewN | apply below_drew1 | refine below_set ?_ (IsS65.ge HI214.out) | refine below_set ?_ GE211.out | refine below_set ?_ GE218.out) | exact HB.out)⟩⟩
                  · rw [if_neg c34] at H
                    exact absurd H (by simp)
                · replace c32 := Bool.eq_false_iff.mpr c32
                  subst c32
                  have H1 : (frame_Decode.j2 k1 t232 t233 t215 0 ([] : List ByteArray) (⟨#[]⟩ : ByteArray) x219004_1) = some (r1, r2, r3, r4, r5, r6) := by rw [if_neg (show ¬ (false = true) by decide)] at H; exact H
                  clear H
                  have H := H1
                  clear H1
                  have H' := Aside0.mk H
                  clear H
                  go_wp2_with (first | (go_at_call 31; (with_reducible refine (octets_Reader_Good.calls g214 x215000_1 x215001_1 false t232 t233 w _ ?side1 ?side2 A31.out).mono ?_); (case side1 => repeat (first | (with_reducible first | exact HI214.out | apply IsS65.alloc | apply IsS65.drewN | apply IsS65.drew | apply IsS65.set_0 | apply IsS65.set_1 | refine IsS65.far ?_ NB214_211.out _ | refine IsS65.far ?_ NB214_218.out _) | exact HI214.out)); (case side2 => repeat (first | (with_reducible first | exact HB.out | apply below_alloc | apply pw_below_drewN | apply below_drew1 | refine below_set ?_ (IsS65.ge HI214.out) | refine below_set ?_ GE211.out | refine below_set ?_ GE218.out) | exact HB.out)); rintro e w41 ⟨rfl, hi, hb, hk⟩; have n0_ := Aside0.mk (Kd.R_mono (Kd.R_keep (IsS65.apart (show IsS65 w _ g214 x215000_1 x215001_1 from by repeat (first | (with_reducible first | exact HI214.out | apply IsS65.alloc | apply IsS65.drewN | apply IsS65.drew | apply IsS65.set_0 | apply IsS65.set_1 | refine IsS65.far ?_ NB214_211.out _ | refine IsS65.far ?_ NB214_218.out _) | exact HI214.out)) (by (with_reducible repeat (first | apply Kd.R_alloc | apply Kd.R_drewN | apply Kd.R_drew)); exact HO_219004.out) (by decide)) hk (fun _ h => h.2)) (fun _ h => h.1)); have n1_ := Aside0.mk (KeepBut.blk hk (g' := gb211) (o := .cells #[.int .i64 0, .int .i64 0, .slice none 0 0, .string (⟨#[]⟩ : ByteArray), .slice none 0 0] 24 (0, 0)) (by (with_reducible repeat (first | refine blk_drewN ?_ _ | refine blk_drew ?_ | refine blk_alloc ?_ _)); exact BK211.out) NB211_214.out (by simp)); have n2_ := Aside0.mk (KeepBut.blk hk (g' := gb218) (o := .cells #[.int .i64 t215, .int .i64 0, .slice none 0 0, .string (⟨#[]⟩ : ByteArray), u219004] 24 (0, 0)) (by (with_reducible repeat (first | refine blk_drewN ?_ _ | refine blk_drew ?_ | refine blk_alloc ?_ _)); exact BK218.out) NB218_214.out (by simp)); have n3_ := Aside0.mk (hb); have n4_ := Aside0.mk (hi); clear HO_219004; clear BK211; clear BK218; clear HB; clear HI214; have HO_219004 := n0_; have BK211 := n1_; have BK218 := n2_; have HB := n3_; have HI214 := n4_; clear n0_ n1_ n2_ n3_ n4_; (try clear hb); (try clear hb2); (try clear hk); (try clear hi)))
                  go_meet
                  case rel => exact ⟨_, (t232), (t233), (0), (([] : List ByteArray)), ((⟨#[]⟩ : ByteArray)), (x219004_1), (.slice none 0 0), (u219004), H', ⟨by have := HK1.out; first | omega | exact Nat.le_refl _⟩, ⟨by first | exact Kd.R_nil _ _ _ _ _ | exact Kd.N_nil _ _ _ _ _ | exact Kd.V_nil _ _ _ _ _ | exact Kd.Q_nil _ _ _ _ _ | exact Kd.S_nil _ _ _ _ _⟩, ⟨by (with_reducible repeat (first | apply Kd.R_alloc | apply Kd.R_drewN | apply Kd.R_drew)); exact Kd.R_mono HO_219004.out (fun _ hk => (by simp [Value.ownBlock]))⟩, ⟨by (with_reducible repeat (first | refine blk_drewN ?_ _ | refine blk_drew ?_ | refine blk_alloc ?_ _)); exact BK211.out⟩, ⟨by (with_reducible repeat (first | refine blk_drewN ?_ _ | refine blk_drew ?_ | refine blk_alloc ?_ _)); exact BK218.out⟩, ⟨by repeat (first | (with_reducible first | exact HI214.out | apply IsS65.alloc | apply IsS65.drewN | apply IsS65.drew | apply IsS65.set_0 | apply IsS65.set_1 | refine IsS65.far ?_ NB214_211.out _ | refine IsS65.far ?_ NB214_218.out _) | exact HI214.out)⟩, ⟨by repeat (first | (with_reducible first | exact HB.out | apply below_alloc | apply pw_below_drewN | apply below_drew1 | refine below_set ?_ (IsS65.ge HI214.out) | refine below_set ?_ GE211.out | refine below_set ?_ GE218.out) | exact HB.out)⟩⟩
              · rw [if_neg c30] at H
                have c30b0 : decide (0 < x6_1) = false := decide_eq_false c30
                clear c30
                have H' := Aside0.mk H
                clear H
                go_wp2
                go_meet
                case rel => exact ⟨_, (x215000_1), (x215001_1), (0), (([] : List ByteArray)), ((⟨#[]⟩ : ByteArray)), (x219004_1), (.slice none 0 0), (u219004), H', ⟨by have := HK1.out; first | omega | exact Nat.le_refl _⟩, ⟨by first | exact Kd.R_nil _ _ _ _ _ | exact Kd.N_nil _ _ _ _ _ | exact Kd.V_nil _ _ _ _ _ | exact Kd.Q_nil _ _ _ _ _ | exact Kd.S_nil _ _ _ _ _⟩, ⟨by (with_reducible repeat (first | apply Kd.R_alloc | apply Kd.R_drewN | apply Kd.R_drew)); exact Kd.R_mono HO_219004.out (fun _ hk => (by simp [Value.ownBlock]))⟩, ⟨by (with_reducible repeat (first | refine blk_drewN ?_ _ | refine blk_drew ?_ | refine blk_alloc ?_ _)); exact BK211.out⟩, ⟨by (with_reducible repeat (first | refine blk_drewN ?_ _ | refine blk_drew ?_ | refine blk_alloc ?_ _)); exact BK218.out⟩, ⟨by repeat (first | (with_reducible first | exact HI214.out | apply IsS65.alloc | apply IsS65.drewN | apply IsS65.drew | apply IsS65.set_0 | apply IsS65.set_1 | refine IsS65.far ?_ NB214_211.out _ | refine IsS65.far ?_ NB214_218.out _) | exact HI214.out)⟩, ⟨by repeat (first | (with_reducible first | exact HB.out | apply below_alloc | apply pw_below_drewN | apply below_drew1 | refine below_set ?_ (IsS65.ge HI214.out) | refine below_set ?_ GE211.out | refine below_set ?_ GE218.out) | exact HB.out)⟩⟩
        · rw [if_neg c27] at H
          have c27b0 : (t215 == 4) = false := beq_eq_false_iff_ne.mpr c27
          have c27b1 : (t215 != 4) = true := bne_iff_ne.mpr c27
          replace H := Option.bind_eq_some_iff.mp H
          obtain ⟨⟨t240, t241, t242⟩, A420, H⟩ := H
          replace H : (frame_Decode.l1 k t240 t241 t242 t215 0 ([] : List ByteArray) (⟨#[]⟩ : ByteArray)) = some (r1, r2, r3, r4, r5, r6) := H
          have A42 := Aside0.mk A420
          clear A420
          have H' := Aside0.mk H
          clear H
          go_wp2_with (first | ((with_reducible refine gate_callee (f := 29) rfl ?_); refine goesL_ (some 20) rfl rfl Try.func29 (by kernel_rfl) rfl #[.pointer (some ⟨g214, 0, none⟩)] rfl (by (try simp only [List.map_toArray, List.map_cons, List.map_nil]); first | done | rfl | (simp only [List.length_drop, List.length_take]; rfl)) ?_; (with_reducible refine (octets_Reader_Byte.calls k g214 t216 t217 t240 t241 t242 w _ ?side1 ?side2 A42.out).mono ?_); (case side1 => repeat (first | (with_reducible first | exact HI214.out | apply IsS65.alloc | apply IsS65.drewN | apply IsS65.drew | apply IsS65.set_0 | apply IsS65.set_1 | refine IsS65.far ?_ NB214_211.out _ | refine IsS65.far ?_ NB214_218.out _) | exact HI214.out)); (case side2 => repeat (first | (with_reducible first | exact HB.out | apply below_alloc | apply pw_below_drewN | apply below_drew1 | refine below_set ?_ (IsS65.ge HI214.out) | refine below_set ?_ GE211.out | refine below_set ?_ GE218.out) | exact HB.out)); rintro e w43 ⟨rfl, hi, hb, hk⟩; refine ⟨_, rfl, ?_⟩; have n0_ := Aside0.mk (KeepBut.blk hk (g' := gb211) (o := .cells #[.int .i64 0, .int .i64 0, .slice none 0 0, .string (⟨#[]⟩ : ByteArray), .slice none 0 0] 24 (0, 0)) (by (with_reducible repeat (first | refine blk_drewN ?_ _ | refine blk_drew ?_ | refine blk_alloc ?_ _)); refine blk_far ?_ NB211_218.out _; (with_reducible repeat (first | refine blk_drewN ?_ _ | refine blk_drew ?_ | refine blk_alloc ?_ _)); refine blk_far ?_ NB211_218.out _; (with_reducible repeat (first | refine blk_drewN ?_ _ | refine blk_drew ?_ | refine blk_alloc ?_ _)); refine blk_far ?_ NB211_218.out _; (with_reducible repeat (first | refine blk_drewN ?_ _ | refine blk_drew ?_ | refine blk_alloc ?_ _)); refine blk_far ?_ NB211_218.out _; (with_reducible repeat (first | refine blk_drewN ?_ _ | refine blk_drew ?_ | refine blk_alloc ?_ _)); refine blk_far ?_ NB211_218.out _; (with_reducible repeat (first | refine blk_drewN ?_ _ | refine blk_drew ?_ | refine blk_alloc ?_ _)); exact BK211.out) NB211_214.out (by simp)); have n1_ := Aside0.mk (KeepBut.blk hk (g' := gb218) (o := .cells #[.int .i64 t215, .int .i64 0, .slice none 0 0, .string (⟨#[]⟩ : ByteArray), .slice none 0 0] 24 (0, 0)) (by (with_reducible repeat (first | refine blk_drewN ?_ _ | refine blk_drew ?_ | refine blk_alloc ?_ _)); refine blk_put (cs := #[.int .i64 t215, .int .i64 0, .slice none 0 0, .string (⟨#[]⟩ : ByteArray), .slice none 0 0]) ?_ 4 _ rfl; (with_reducible repeat (first | refine blk_drewN ?_ _ | refine blk_drew ?_ | refine blk_alloc ?_ _)); refine blk_put (cs := #[.int .i64 t215, .int .i64 0, .slice none 0 0, .string (⟨#[]⟩ : ByteArray), .slice none 0 0]) ?_ 3 _ rfl; (with_reducible repeat (first | refine blk_drewN ?_ _ | refine blk_drew ?_ | refine blk_alloc ?_ _)); refine blk_put (cs := #[.int .i64 t215, .int .i64 0, .slice none 0 0, .string (⟨#[]⟩ : ByteArray), .slice none 0 0]) ?_ 2 _ rfl; (with_reducible repeat (first | refine blk_drewN ?_ _ | refine blk_drew ?_ | refine blk_alloc ?_ _)); refine blk_put (cs := #[.int .i64 t215, .int .i64 0, .slice none 0 0, .string (⟨#[]⟩ : ByteArray), .slice none 0 0]) ?_ 1 _ rfl; (with_reducible repeat (first | refine blk_drewN ?_ _ | refine blk_drew ?_ | refine blk_alloc ?_ _)); refine blk_put (cs := #[.int .i64 0, .int .i64 0, .slice none 0 0, .string (⟨#[]⟩ : ByteArray), .slice none 0 0]) ?_ 0 _ rfl; (with_reducible repeat (first | refine blk_drewN ?_ _ | refine blk_drew ?_ | refine blk_alloc ?_ _)); exact BK218.out) NB218_214.out (by simp)); have n2_ := Aside0.mk (hb); have n3_ := Aside0.mk (hi); clear BK211; clear BK218; clear HB; clear HI214; have BK211 := n0_; have BK218 := n1_; have HB := n2_; have HI214 := n3_; clear n0_ n1_ n2_ n3_; (try clear hb); (try clear hb2); (try clear hk); (try clear hi)))
          go_loopg [7] k (fun kq v7 w' => ∃ (x7_1 : Int) (x215000_1 : ByteArray) (x215001_1 : Bool) (x219002_1 : List ByteArray) (u219002 : Value), v7 = .int .i64 x7_1 ∧ Aside0 (frame_Decode.l1 kq x7_1 x215000_1 x215001_1 t215 0 x219002_1 (⟨#[]⟩ : ByteArray) = some (r1, r2, r3, r4, r5, r6)) ∧ Aside0 (kq ≤ k) ∧ Aside0 (Kd.R Kd.string 9 w' w.heap.size (fun _ => True) u219002 x219002_1) ∧ Aside0 (w'.heap[gb211]? = some (.cells #[.int .i64 0, .int .i64 0, (.slice none 0 0), .string (⟨#[]⟩ : ByteArray), (.slice none 0 0)] 24 (0, 0))) ∧ Aside0 (w'.heap[gb218]? = some (.cells #[.int .i64 t215, .int .i64 0, u219002, .string (⟨#[]⟩ : ByteArray), (.slice none 0 0)] 24 (0, 0))) ∧ Aside0 (IsS65 w w' g214 x215000_1 x215001_1) ∧ Aside0 (Below w.heap.size w w'))
          case atStart => exact ⟨(t240), (t241), (t242), (([] : List ByteArray)), (.slice none 0 0), (by first | rfl | (simp; done) | (simp [*]; done) | exact congrArg Value.bool (nonempty_l _) | (refine congrArg (Value.int _) ?_; first | omega | (unfold Go.RowKit.wrap64; omega))), H', ⟨Nat.le_refl _⟩, ⟨by first | exact Kd.R_nil _ _ _ _ _ | exact Kd.N_nil _ _ _ _ _ | exact Kd.V_nil _ _ _ _ _ | exact Kd.Q_nil _ _ _ _ _ | exact Kd.S_nil _ _ _ _ _⟩, ⟨by (with_reducible repeat (first | refine blk_drewN ?_ _ | refine blk_drew ?_ | refine blk_alloc ?_ _)); exact BK211.out⟩, ⟨by (with_reducible repeat (first | refine blk_drewN ?_ _ | refine blk_drew ?_ | refine blk_alloc ?_ _)); exact BK218.out⟩, ⟨by repeat (first | (with_reducible first | exact HI214.out | apply IsS65.alloc | apply IsS65.drewN | apply IsS65.drew | apply IsS65.set_0 | apply IsS65.set_1 | refine IsS65.far ?_ NB214_211.out _ | refine IsS65.far ?_ NB214_218.out _) | exact HI214.out)⟩, ⟨by repeat (first | (with_reducible first | exact HB.out | apply below_alloc | apply pw_below_drewN | apply below_drew1 | refine below_set ?_ (IsS65.ge HI214.out) | refine below_set ?_ GE211.out | refine below_set ?_ GE218.out) | exact HB.out)⟩⟩
          case round =>
            clear H'
            try clear c1
            try clear c2
            try clear c2b0
            try clear c2b1
            try clear p2
            try clear c3
            try clear p6
            try clear c12
            try clear c13
            try clear c15
            try clear c15b0
            try clear c15b1
            try clear c19
            try clear c20
            try clear c27
            try clear c27b0
            try clear c27b1
            try clear c28
            try clear c29
            try clear c30
            try clear c30b0
            try clear c32
            try clear c34
            try clear hcz14_0
            try clear hcz14_1
            try clear hcz14_2
            try clear hcz14_3
            try clear hcz14_4
            try clear hcz21_0
            try clear hcz21_1
            try clear hcz21_2
            try clear hcz21_3
            try clear hcz21_4
            try clear hcz26_0
            try clear hcz26_1
            try clear hcz26_2
            try clear hcz26_3
            try clear hcz26_4
            try clear hcz4_0
            try clear hcz4_1
            try clear hcz4_2
            try clear hcz4_3
            try clear hcz4_4
            try clear hfz14_0
            try clear hfz14_1
            try clear hfz14_2
            try clear hfz14_3
            try clear hfz14_4
            try clear hfz21_0
            try clear hfz21_1
            try clear hfz21_2
            try clear hfz21_3
            try clear hfz21_4
            try clear hfz26_0
            try clear hfz26_1
            try clear hfz26_2
            try clear hfz26_3
            try clear hfz26_4
            try clear hfz4_0
            try clear hfz4_1
            try clear hfz4_2
            try clear hfz4_3
            try clear hfz4_4
            try clear p2
            try clear p6
            obtain ⟨x7_1, x215000_1, x215001_1, x219002_1, u219002, rfl, HA, HK1, HO_219002, BK211, BK218, HI214, HB⟩ := hrel
            cases gk with
            | zero => exact absurd HA.out (by simp [frame_Decode.l1])
            | succ k1 =>
              have H := HA.out
              clear HA
              simp only [frame_Decode.l1] at H
              by_cases c44 : x7_1 > 0
              · rw [if_pos c44] at H
                have c44b0 : decide (0 < x7_1) = true := decide_eq_true c44
                clear c44
                replace H := Option.bind_eq_some_iff.mp H
                obtain ⟨⟨t243, t244, t245⟩, A450, H⟩ := H
                replace H : (if t243 = true then ((octets_Reader_Take.f k1 t244 t245 32).bind fun bt246 => (if x219002_1.length < 8796093022208 then (frame_Decode.l1 k1 (wrap64 (x7_1 - 1)) bt246.2.1 bt246.2.2 t215 0 (x219002_1 ++ [bt246.1]) (⟨#[]⟩ : ByteArray)) else (none))) else (if t215 = 2 then ((octets_Reader_Text.f k1 t244 t245).bind fun bt252 => (frame_Decode.j2 k1 bt252.2.1 bt252.2.2 t215 0 x219002_1 bt252.1 ([] : List ByteArray))) else (frame_Decode.j2 k1 t244 t245 t215 0 x219002_1 (⟨#[]⟩ : ByteArray) ([] : List ByteArray)))) = some (r1, r2, r3, r4, r5, r6) := H
                have A45 := Aside0.mk A450
                clear A450
                by_cases c46 : t243 = true
                · subst c46
                  have H1 : ((octets_Reader_Take.f k1 t244 t245 32).bind fun bt246 => (if x219002_1.length < 8796093022208 then (frame_Decode.l1 k1 (wrap64 (x7_1 - 1)) bt246.2.1 bt246.2.2 t215 0 (x219002_1 ++ [bt246.1]) (⟨#[]⟩ : ByteArray)) else (none))) = some (r1, r2, r3, r4, r5, r6) := by rw [if_pos rfl] at H; exact H
                  clear H
                  have H := H1
                  clear H1
                  replace H := Option.bind_eq_some_iff.mp H
                  obtain ⟨⟨t246, t247, t248⟩, A470, H⟩ := H
                  replace H : (if x219002_1.length < 8796093022208 then (frame_Decode.l1 k1 (wrap64 (x7_1 - 1)) t247 t248 t215 0 (x219002_1 ++ [t246]) (⟨#[]⟩ : ByteArray)) else (none)) = some (r1, r2, r3, r4, r5, r6) := H
                  have A47 := Aside0.mk A470
                  clear A470
                  by_cases c48 : x219002_1.length < 8796093022208
                  · rw [if_pos c48] at H
                    have LMc48 := Aside0.mk c48
                    clear c48
                    obtain ⟨y249, hy249⟩ : ∃ y_ : List ByteArray, y_ = (x219002_1 ++ [t246]) := ⟨_, rfl⟩
                    replace H : (frame_Decode.l1 k1 (wrap64 (x7_1 - 1)) t247 t248 t215 0 y249 (⟨#[]⟩ : ByteArray)) = some (r1, r2, r3, r4, r5, r6) := by first | (rw [hy249]; with_reducible exact H) | (have H2_ := (Option.bind_some _ _).symm.trans H; rw [hy249]; with_reducible exact H2_) | (have H2_ := (Option.bind_some _ _).symm.trans H; with_reducible exact H2_) | with_reducible exact H | (rw [hy249]; exact H) | exact H
                    have Ny249 := Aside0.mk hy249
                    clear hy249
                    have H' := Aside0.mk H
                    clear H
                    try go_wp2_with (first | (go_at_call 31; (with_reducible refine (octets_Reader_Good.calls g214 x215000_1 x215001_1 true t244 t245 w _ ?side1 ?side2 A45.out).mono ?_); (case side1 => repeat (first | (with_reducible first | exact HI214.out | apply IsS65.alloc | apply IsS65.drewN | apply IsS65.drew | apply IsS65.set_0 | apply IsS65.set_1 | refine IsS65.far ?_ NB214_211.out _ | refine IsS65.far ?_ NB214_218.out _) | exact HI214.out)); (case side2 => repeat (first | (with_reducible first | exact HB.out | apply below_alloc | apply pw_below_drewN | apply below_drew1 | refine below_set ?_ (IsS65.ge HI214.out) | refine below_set ?_ GE211.out | refine below_set ?_ GE218.out) | exact HB.out)); rintro e w49 ⟨rfl, hi, hb, hk⟩; have n0_ := Aside0.mk (Kd.R_mono (Kd.R_keep (IsS65.apart (show IsS65 w _ g214 x215000_1 x215001_1 from by repeat (first | (with_reducible first | exact HI214.out | apply IsS65.alloc | apply IsS65.drewN | apply IsS65.drew | apply IsS65.set_0 | apply IsS65.set_1 | refine IsS65.far ?_ NB214_211.out _ | refine IsS65.far ?_ NB214_218.out _) | exact HI214.out)) (by (with_reducible repeat (first | apply Kd.R_alloc | apply Kd.R_drewN | apply Kd.R_drew)); exact HO_219002.out) (by decide)) hk (fun _ h => h.2)) (fun _ h => h.1)); have n1_ := Aside0.mk (KeepBut.blk hk (g' := gb211) (o := .cells #[.int .i64 0, .int .i64 0, .slice none 0 0, .string (⟨#[]⟩ : ByteArray), .slice none 0 0] 24 (0, 0)) (by (with_reducible repeat (first | refine blk_drewN ?_ _ | refine blk_drew ?_ | refine blk_alloc ?_ _)); exact BK211.out) NB211_214.out (by simp)); have n2_ := Aside0.mk (KeepBut.blk hk (g' := gb218) (o := .cells #[.int .i64 t215, .int .i64 0, u219002, .string (⟨#[]⟩ : ByteArray), .slice none 0 0] 24 (0, 0)) (by (with_reducible repeat (first | refine blk_drewN ?_ _ | refine blk_drew ?_ | refine blk_alloc ?_ _)); exact BK218.out) NB218_214.out (by simp)); have n3_ := Aside0.mk (hb); have n4_ := Aside0.mk (hi); clear HO_219002; clear BK211; clear BK218; clear HB; clear HI214; have HO_219002 := n0_; have BK211 := n1_; have BK218 := n2_; have HB := n3_; have HI214 := n4_; clear n0_ n1_ n2_ n3_ n4_; (try clear hb); (try clear hb2); (try clear hk); (try clear hi)))
                    have n0_ := Aside0.mk (Kd.R_drew HO_219002.out)
                    have n1_ := Aside0.mk (blk_drew BK211.out)
                    have n2_ := Aside0.mk (blk_drew BK218.out)
                    have n3_ := Aside0.mk (IsS65.drew HI214.out)
                    have n4_ := Aside0.mk (below_drew1 HB.out)
                    clear HO_219002
                    clear BK211
                    clear BK218
                    clear HI214
                    clear HB
                    have HO_219002 := n0_
                    have BK211 := n1_
                    have BK218 := n2_
                    have HI214 := n3_
                    have HB := n4_
                    clear n0_ n1_ n2_ n3_ n4_
                    refine start_ (n := 8) (S := fun w' => w'.cell? ⟨gb218, 0, none⟩ = some (.int .i64 t215) ∧ w'.cell? ⟨gb218, 1, none⟩ = some (.int .i64 0) ∧ w'.cell? ⟨gb218, 2, none⟩ = some (u219002) ∧ w'.cell? ⟨gb218, 3, none⟩ = some (.string (⟨#[]⟩ : ByteArray)) ∧ w'.cell? ⟨gb218, 4, none⟩ = some (.slice none 0 0)) (ds := [7]) #[false, false, false, false, false, false, false, false] (by kernel_rfl) rfl rfl ⟨(blk_cell BK218.out 0).trans rfl, (blk_cell BK218.out 1).trans rfl, (blk_cell BK218.out 2).trans rfl, (blk_cell BK218.out 3).trans rfl, (blk_cell BK218.out 4).trans rfl⟩ (fun hHeld => ?_); refine with_tabW frame_Decode.tab9 frame_Decode.bits9 (fun HT_ HW_ => ?_)
                    generalize w49.drew = w50 at HO_219002 BK211 BK218 HI214 HB hHeld ⊢
                    refine pure_ (i := 0) (N := some 29) (v := ?_) (a' := ?_) #[true, false, false, false, false, false, false, false] rfl rfl (any_of HT_.out (by kernel_rfl)) (fun _ _ _ h => h) (Or.inl ⟨by rfl, ?_⟩) ?_ ?_
                    rotate_left
                    · intro w'
                      go_simp
                      with_reducible rfl
                    rotate_left
                    · simp only [Act.put, List.setIfInBounds_toArray, List.set_cons_zero, List.set_cons_succ, i64_w, i32_w]
                      rfl
                    refine pure_ (i := 2) (N := some 31) (v := ?_) (a' := ?_) #[true, false, true, false, false, false, false, false] rfl rfl (any_of HT_.out (by kernel_rfl)) (fun _ _ _ h => h) (Or.inl ⟨by rfl, ?_⟩) ?_ ?_
                    rotate_left
                    · intro w'
                      go_simp
                      with_reducible rfl
                    rotate_left
                    · simp only [Act.put, List.setIfInBounds_toArray, List.set_cons_zero, List.set_cons_succ, i64_w, i32_w]
                      rfl
                    refine take_ (i := 1) (N := some 30) (v := ?_) (a' := ?_) #[true, true, true, false, false, false, false, false] rfl rfl (take_ofW HT_.out HW_.out (by kernel_rfl)) (fun _ _ _ h => h) (Or.inl ⟨by rfl, ?_⟩) hHeld ?_ ?_
                    rotate_left
                    · rintro w' ⟨s0, s1, s2, s3, s4⟩
                      go_simp
                      with_reducible rfl
                    rotate_left
                    · simp only [Act.put, List.setIfInBounds_toArray, List.set_cons_zero, List.set_cons_succ, i64_w, i32_w]
                      rfl
                    refine one_ (i := 3) (N := some 32) #[true, true, true, true, false, false, false, false] rfl rfl (one_of HT_.out (by kernel_rfl)) (by decide) (fun K hK => ?_)
                    refine goes_ Try.func32 (by kernel_rfl) rfl #[.pointer (some ⟨g214, 0, none⟩), .int .i64 32] (by rfl) rfl rfl (by (try simp only [List.map_toArray, List.map_cons, List.map_nil]); first | done | rfl | (simp only [List.length_drop, List.length_take]; rfl)) ?_
                    with_reducible refine (octets_Reader_Take.calls k1 g214 t244 t245 32 t246 t247 t248 w _ ?side1 ?side2 A47.out).mono ?_
                    (case side1 => repeat (first | (with_reducible first | exact HI214.out | apply IsS65.alloc | apply IsS65.drewN | apply IsS65.drew | apply IsS65.set_0 | apply IsS65.set_1 | refine IsS65.far ?_ NB214_211.out _ | refine IsS65.far ?_ NB214_218.out _) | exact HI214.out))
                    (case side2 => repeat (first | (with_reducible first | exact HB.out | apply below_alloc | apply pw_below_drewN | apply below_drew1 | refine below_set ?_ (IsS65.ge HI214.out) | refine below_set ?_ GE211.out | refine below_set ?_ GE218.out) | exact HB.out))
                    rintro e w51 ⟨rfl, hi, hb, hk⟩
                    refine ⟨_, rfl, ?_⟩
                    have n0_ := Aside0.mk (Kd.R_mono (Kd.R_keep (IsS65.apart (show IsS65 w _ g214 t244 t245 from by repeat (first | (with_reducible first | exact HI214.out | apply IsS65.alloc | apply IsS65.drewN | apply IsS65.drew | apply IsS65.set_0 | apply IsS65.set_1 | refine IsS65.far ?_ NB214_211.out _ | refine IsS65.far ?_ NB214_218.out _) | exact HI214.out)) (by (with_reducible repeat (first | apply Kd.R_alloc | apply Kd.R_drewN | apply Kd.R_drew)); exact HO_219002.out) (by decide)) hk (fun _ h => h.2)) (fun _ h => h.1))
                    have n1_ := Aside0.mk (KeepBut.blk hk (g' := gb211) (o := .cells #[.int .i64 0, .int .i64 0, .slice none 0 0, .string (⟨#[]⟩ : ByteArray), .slice none 0 0] 24 (0, 0)) (by (with_reducible repeat (first | refine blk_drewN ?_ _ | refine blk_drew ?_ | refine blk_alloc ?_ _)); exact BK211.out) NB211_214.out (by simp))
                    have n2_ := Aside0.mk (KeepBut.blk hk (g' := gb218) (o := .cells #[.int .i64 t215, .int .i64 0, u219002, .string (⟨#[]⟩ : ByteArray), .slice none 0 0] 24 (0, 0)) (by (with_reducible repeat (first | refine blk_drewN ?_ _ | refine blk_drew ?_ | refine blk_alloc ?_ _)); exact BK218.out) NB218_214.out (by simp))
                    have n3_ := Aside0.mk (hb)
                    have n4_ := Aside0.mk (hi)
                    clear HO_219002
                    clear BK211
                    clear BK218
                    clear HB
                    clear HI214
                    have HO_219002 := n0_
                    have BK211 := n1_
                    have BK218 := n2_
                    have HB := n3_
                    have HI214 := n4_
                    clear n0_ n1_ n2_ n3_ n4_
                    (try clear hb)
                    (try clear hb2)
                    (try clear hk)
                    (try clear hi)
                    refine hK.out _ _ ⟨(blk_cell BK218.out 0).trans rfl, (blk_cell BK218.out 1).trans rfl, (blk_cell BK218.out 2).trans rfl, (blk_cell BK218.out 3).trans rfl, (blk_cell BK218.out 4).trans rfl⟩ (fun hHeld => ?_)
                    clear hK K
                    refine norm_ (a' := ?_) ?_ ?_
                    rotate_left
                    · show Act.put _ (some 32) _ = _
                      simp only [Act.put, List.setIfInBounds_toArray, List.set_cons_zero, List.set_cons_succ, i64_w, i32_w]
                      rfl
                    refine one_ (i := 4) (N := some 33) #[true, true, true, true, true, false, false, false] rfl rfl (one_of HT_.out (by kernel_rfl)) (by decide) (fun K hK => ?_)
                    refine value_ (w1 := ?_) (v := ?_) (by rfl) rfl ?_ ?_
                    rotate_left 2
                    · go_simp
                      constructor
                      · rfl
                      · rfl
                    refine hK.out _ _ ⟨(blk_cell (blk_alloc BK218.out _) 0).trans rfl, (blk_cell (blk_alloc BK218.out _) 1).trans rfl, (blk_cell (blk_alloc BK218.out _) 2).trans rfl, (blk_cell (blk_alloc BK218.out _) 3).trans rfl, (blk_cell (blk_alloc BK218.out _) 4).trans rfl⟩ (fun hHeld => ?_)
                    clear hK K
                    refine norm_ (a' := ?_) ?_ ?_
                    rotate_left
                    · show Act.put _ (some 33) _ = _
                      simp only [Act.put, List.setIfInBounds_toArray, List.set_cons_zero, List.set_cons_succ, i64_w, i32_w]
                      rfl
                    refine one_ (i := 5) (N := some 34) #[true, true, true, true, true, true, false, false] rfl rfl (one_of HT_.out (by kernel_rfl)) (by decide) (fun K hK => ?_)
                    refine Kd.R_append_step Kd.string (w0 := w) w.heap.size (by rfl) (.tmp 30) (.tmp 33) 22 9 (.string ⟨#[]⟩) 16 rfl Try.underlying22 info9 rfl (by decide) (by omega) u219002 x219002_1 t246 [.string t246] (fun _ => True) (fun _ => False) rfl rfl ?aP (fun _ hk => hk.elim) ?aF ?aO ?aB ?aS ?aL ?_
                    (case aP => exact rfl)
                    (case aB => exact (by repeat (first | (with_reducible first | exact HB.out | apply below_alloc | apply pw_below_drewN | apply below_drew1 | refine below_set ?_ (IsS65.ge HI214.out) | refine below_set ?_ GE211.out | refine below_set ?_ GE218.out) | exact HB.out)))
                    (case aF => exact (fun _ _ => trivial))
                    (case aO => exact (by (with_reducible repeat (first | apply Kd.R_alloc | apply Kd.R_drewN | apply Kd.R_drew)); exact HO_219002.out))
                    (case aS => exact (below_size (by repeat (first | (with_reducible first | exact HB.out | apply below_alloc | apply pw_below_drewN | apply below_drew1 | refine below_set ?_ (IsS65.ge HI214.out) | refine below_set ?_ GE211.out | refine below_set ?_ GE218.out) | exact HB.out))))
                    (case aL => have := LMc48.out; omega)
                    intro v250 w52 ho hb hg hat
                    rw [← Ny249.out] at ho
                    have n0_ := Aside0.mk (blk_grown (g := gb211) (o := .cells #[.int .i64 0, .int .i64 0, .slice none 0 0, .string (⟨#[]⟩ : ByteArray), .slice none 0 0] 24 (0, 0)) (by (with_reducible repeat (first | refine blk_drewN ?_ _ | refine blk_drew ?_ | refine blk_alloc ?_ _)); exact BK211.out) hg (Kd.R_ne HO_219002.out BK211.out (by decide)))
                    have n1_ := Aside0.mk (blk_grown (g := gb218) (o := .cells #[.int .i64 t215, .int .i64 0, u219002, .string (⟨#[]⟩ : ByteArray), .slice none 0 0] 24 (0, 0)) (by (with_reducible repeat (first | refine blk_drewN ?_ _ | refine blk_drew ?_ | refine blk_alloc ?_ _)); exact BK218.out) hg (Kd.R_ne HO_219002.out BK218.out (by decide)))
                    have n2_ := Aside0.mk (IsS65.grown (by repeat (first | (with_reducible first | exact HI214.out | apply IsS65.alloc | apply IsS65.drewN | apply IsS65.drew | apply IsS65.set_0 | apply IsS65.set_1 | refine IsS65.far ?_ NB214_211.out _ | refine IsS65.far ?_ NB214_218.out _) | exact HI214.out)) hg (IsS65.own_ne HI214.out HO_219002.out (by decide)))
                    have n3_ := Aside0.mk (hb)
                    have n4_ := Aside0.mk (ho)
                    clear BK211
                    clear BK218
                    clear HI214
                    clear HB
                    clear HO_219002
                    have BK211 := n0_
                    have BK218 := n1_
                    have HI214 := n2_
                    have HB := n3_
                    have HO251 := n4_
                    clear n0_ n1_ n2_ n3_ n4_
                    clear ho hb hg hat
                    obtain ⟨Ao53, co53, eo53⟩ := Kd.R_slice HO251.out
                    (first | subst eo53 | (injection eo53 with f1_ f2_ f3_; have f4_ := f1_.symm; have f5_ := f3_.symm; clear f1_ f2_ f3_; subst f4_; subst f5_))
                    refine hK.out _ _ ⟨(blk_cell BK218.out 0).trans rfl, (blk_cell BK218.out 1).trans rfl, (blk_cell BK218.out 2).trans rfl, (blk_cell BK218.out 3).trans rfl, (blk_cell BK218.out 4).trans rfl⟩ (fun hHeld => ?_)
                    clear hK K
                    refine norm_ (a' := ?_) ?_ ?_
                    rotate_left
                    · show Act.put _ (some 34) _ = _
                      simp only [Act.put, List.setIfInBounds_toArray, List.set_cons_zero, List.set_cons_succ, i64_w, i32_w]
                      rfl
                    refine pure_ (i := 6) (N := some 35) (v := ?_) (a' := ?_) #[true, true, true, true, true, true, true, false] rfl rfl (any_of HT_.out (by kernel_rfl)) (fun _ _ _ h => h) (Or.inl ⟨by rfl, ?_⟩) ?_ ?_
                    rotate_left
                    · intro w'
                      go_simp
                      with_reducible rfl
                    rotate_left
                    · simp only [Act.put, List.setIfInBounds_toArray, List.set_cons_zero, List.set_cons_succ, i64_w, i32_w]
                      rfl
                    refine last_ (i := 7) (N := none) #[true, true, true, true, true, true, true, true] rfl rfl (one_of HT_.out (by kernel_rfl)) (by decide) (fun K hK => ?_)
                    have hs54 : w52.cell? ⟨gb218, 2, none⟩ = some (u219002) := (blk_cell BK218.out 2).trans rfl
                    have hfs54 := blk_frozen BK218.out 2
                    have hns54_0 := NB211_218.out
                    have hms54_0 := NB218_211.out
                    refine skip_ (w1 := ?_) (by rfl) rfl ?_ ?_
                    rotate_left
                    · go_simp
                      rfl
                    refine hK.out _ _ ?_
                    clear hK K
                    refine done_ (done_of HT_.out (by kernel_rfl)) ?_
                    try go_wp2
                    go_roundg k1
                    case measure => have := HK1.out; omega
                    case rel => exact ⟨(wrap64 (x7_1 - 1)), (t247), (t248), (y249), (.slice Ao53 y249.length co53), (by first | rfl | (simp; done) | (simp [*]; done) | exact congrArg Value.bool (nonempty_l _) | (refine congrArg (Value.int _) ?_; first | omega | (unfold Go.RowKit.wrap64; omega))), H', ⟨by have := HK1.out; omega⟩, ⟨by (with_reducible repeat (first | apply Kd.R_alloc | apply Kd.R_drewN | apply Kd.R_drew)); exact Kd.R_mono (Kd.R_far (p := ⟨gb218, 2, none⟩) (Kd.R_types HO251.out BK218.out (by decide)) (fun _ hk => hk.2) (.slice Ao53 y249.length co53)) (fun _ hk => trivial)⟩, ⟨by (with_reducible repeat (first | refine blk_drewN ?_ _ | refine blk_drew ?_ | refine blk_alloc ?_ _)); refine blk_far ?_ NB211_218.out _; (with_reducible repeat (first | refine blk_drewN ?_ _ | refine blk_drew ?_ | refine blk_alloc ?_ _)); exact BK211.out⟩, ⟨by (with_reducible repeat (first | refine blk_drewN ?_ _ | refine blk_drew ?_ | refine blk_alloc ?_ _)); refine blk_put (cs := #[.int .i64 t215, .int .i64 0, u219002, .string (⟨#[]⟩ : ByteArray), .slice none 0 0]) ?_ 2 _ rfl; (with_reducible repeat (first | refine blk_drewN ?_ _ | refine blk_drew ?_ | refine blk_alloc ?_ _)); exact BK218.out⟩, ⟨by repeat (first | (with_reducible first | exact HI214.out | apply IsS65.alloc | apply IsS65.drewN | apply IsS65.drew | apply IsS65.set_0 | apply IsS65.set_1 | refine IsS65.far ?_ NB214_211.out _ | refine IsS65.far ?_ NB214_218.out _) | exact HI214.out)⟩, ⟨by repeat (first | (with_reducible first | exact HB.out | apply below_alloc | apply pw_below_drewN | apply below_drew1 | refine below_set ?_ (IsS65.ge HI214.out) | refine below_set ?_ GE211.out | refine below_set ?_ GE218.out) | exact HB.out)⟩⟩
                  · rw [if_neg c48] at H
                    exact absurd H (by simp)
                · replace c46 := Bool.eq_false_iff.mpr c46
                  subst c46
                  have H1 : (if t215 = 2 then ((octets_Reader_Text.f k1 t244 t245).bind fun bt252 => (frame_Decode.j2 k1 bt252.2.1 bt252.2.2 t215 0 x219002_1 bt252.1 ([] : List ByteArray))) else (frame_Decode.j2 k1 t244 t245 t215 0 x219002_1 (⟨#[]⟩ : ByteArray) ([] : List ByteArray))) = some (r1, r2, r3, r4, r5, r6) := by rw [if_neg (show ¬ (false = true) by decide)] at H; exact H
                  clear H
                  have H := H1
                  clear H1
                  by_cases c55 : t215 = 2
                  · rw [if_pos c55] at H
                    have c55b0 : (t215 == 2) = true := beq_iff_eq.mpr c55
                    have c55b1 : (t215 != 2) = false := bne_eq_false_iff_eq.mpr c55
                    clear c55
                    replace H := Option.bind_eq_some_iff.mp H
                    obtain ⟨⟨t252, t253, t254⟩, A560, H⟩ := H
                    replace H : (frame_Decode.j2 k1 t253 t254 t215 0 x219002_1 t252 ([] : List ByteArray)) = some (r1, r2, r3, r4, r5, r6) := H
                    have A56 := Aside0.mk A560
                    clear A560
                    have H' := Aside0.mk H
                    clear H
                    go_wp2_with (first | (go_at_call 31; (with_reducible refine (octets_Reader_Good.calls g214 x215000_1 x215001_1 false t244 t245 w _ ?side1 ?side2 A45.out).mono ?_); (case side1 => repeat (first | (with_reducible first | exact HI214.out | apply IsS65.alloc | apply IsS65.drewN | apply IsS65.drew | apply IsS65.set_0 | apply IsS65.set_1 | refine IsS65.far ?_ NB214_211.out _ | refine IsS65.far ?_ NB214_218.out _) | exact HI214.out)); (case side2 => repeat (first | (with_reducible first | exact HB.out | apply below_alloc | apply pw_below_drewN | apply below_drew1 | refine below_set ?_ (IsS65.ge HI214.out) | refine below_set ?_ GE211.out | refine below_set ?_ GE218.out) | exact HB.out)); rintro e w57 ⟨rfl, hi, hb, hk⟩; have n0_ := Aside0.mk (Kd.R_mono (Kd.R_keep (IsS65.apart (show IsS65 w _ g214 x215000_1 x215001_1 from by repeat (first | (with_reducible first | exact HI214.out | apply IsS65.alloc | apply IsS65.drewN | apply IsS65.drew | apply IsS65.set_0 | apply IsS65.set_1 | refine IsS65.far ?_ NB214_211.out _ | refine IsS65.far ?_ NB214_218.out _) | exact HI214.out)) (by (with_reducible repeat (first | apply Kd.R_alloc | apply Kd.R_drewN | apply Kd.R_drew)); exact HO_219002.out) (by decide)) hk (fun _ h => h.2)) (fun _ h => h.1)); have n1_ := Aside0.mk (KeepBut.blk hk (g' := gb211) (o := .cells #[.int .i64 0, .int .i64 0, .slice none 0 0, .string (⟨#[]⟩ : ByteArray), .slice none 0 0] 24 (0, 0)) (by (with_reducible repeat (first | refine blk_drewN ?_ _ | refine blk_drew ?_ | refine blk_alloc ?_ _)); exact BK211.out) NB211_214.out (by simp)); have n2_ := Aside0.mk (KeepBut.blk hk (g' := gb218) (o := .cells #[.int .i64 t215, .int .i64 0, u219002, .string (⟨#[]⟩ : ByteArray), .slice none 0 0] 24 (0, 0)) (by (with_reducible repeat (first | refine blk_drewN ?_ _ | refine blk_drew ?_ | refine blk_alloc ?_ _)); exact BK218.out) NB218_214.out (by simp)); have n3_ := Aside0.mk (hb); have n4_ := Aside0.mk (hi); clear HO_219002; clear BK211; clear BK218; clear HB; clear HI214; have HO_219002 := n0_; have BK211 := n1_; have BK218 := n2_; have HB := n3_; have HI214 := n4_; clear n0_ n1_ n2_ n3_ n4_; (try clear hb); (try clear hb2); (try clear hk); (try clear hi); have hnb58 := NB218_211.out; have hnc58 := NB211_218.out; have hnb59 := NB218_214.out; have hnc59 := NB214_218.out; have hcz60_0 : w57.cell? ⟨gb218, 0, none⟩ = some (.int .i64 t215) := (blk_cell BK218.out 0).trans rfl; have hcz60_1 : w57.cell? ⟨gb218, 1, none⟩ = some (.int .i64 0) := (blk_cell BK218.out 1).trans rfl; have hcz60_2 : w57.cell? ⟨gb218, 2, none⟩ = some (u219002) := (blk_cell BK218.out 2).trans rfl; have hcz60_3 : w57.cell? ⟨gb218, 3, none⟩ = some (.string (⟨#[]⟩ : ByteArray)) := (blk_cell BK218.out 3).trans rfl; have hcz60_4 : w57.cell? ⟨gb218, 4, none⟩ = some (.slice none 0 0) := (blk_cell BK218.out 4).trans rfl; have hfz60_0 := blk_frozen BK218.out 0; have hfz60_1 := blk_frozen BK218.out 1; have hfz60_2 := blk_frozen BK218.out 2; have hfz60_3 := blk_frozen BK218.out 3; have hfz60_4 := blk_frozen BK218.out 4) | ((with_reducible refine gate_callee (f := 30) rfl ?_); refine goesL_ (some 40) rfl rfl Try.func30 (by kernel_rfl) rfl #[.pointer (some ⟨g214, 0, none⟩)] rfl (by (try simp only [List.map_toArray, List.map_cons, List.map_nil]); first | done | rfl | (simp only [List.length_drop, List.length_take]; rfl)) ?_; (with_reducible refine (octets_Reader_Text.calls k1 g214 t244 t245 t252 t253 t254 w _ ?side1 ?side2 A56.out).mono ?_); (case side1 => repeat (first | (with_reducible first | exact HI214.out | apply IsS65.alloc | apply IsS65.drewN | apply IsS65.drew | apply IsS65.set_0 | apply IsS65.set_1 | refine IsS65.far ?_ NB214_211.out _ | refine IsS65.far ?_ NB214_218.out _) | exact HI214.out)); (case side2 => repeat (first | (with_reducible first | exact HB.out | apply below_alloc | apply pw_below_drewN | apply below_drew1 | refine below_set ?_ (IsS65.ge HI214.out) | refine below_set ?_ GE211.out | refine below_set ?_ GE218.out) | exact HB.out)); rintro e w61 ⟨rfl, hi, hb, hk⟩; refine ⟨_, rfl, ?_⟩; have n0_ := Aside0.mk (Kd.R_mono (Kd.R_keep (IsS65.apart (show IsS65 w _ g214 t244 t245 from by repeat (first | (with_reducible first | exact HI214.out | apply IsS65.alloc | apply IsS65.drewN | apply IsS65.drew | apply IsS65.set_0 | apply IsS65.set_1 | refine IsS65.far ?_ NB214_211.out _ | refine IsS65.far ?_ NB214_218.out _) | exact HI214.out)) (by (with_reducible repeat (first | apply Kd.R_alloc | apply Kd.R_drewN | apply Kd.R_drew)); exact HO_219002.out) (by decide)) hk (fun _ h => h.2)) (fun _ h => h.1)); have n1_ := Aside0.mk (KeepBut.blk hk (g' := gb211) (o := .cells #[.int .i64 0, .int .i64 0, .slice none 0 0, .string (⟨#[]⟩ : ByteArray), .slice none 0 0] 24 (0, 0)) (by (with_reducible repeat (first | refine blk_drewN ?_ _ | refine blk_drew ?_ | refine blk_alloc ?_ _)); exact BK211.out) NB211_214.out (by simp)); have n2_ := Aside0.mk (KeepBut.blk hk (g' := gb218) (o := .cells #[.int .i64 t215, .int .i64 0, u219002, .string (⟨#[]⟩ : ByteArray), .slice none 0 0] 24 (0, 0)) (by (with_reducible repeat (first | refine blk_drewN ?_ _ | refine blk_drew ?_ | refine blk_alloc ?_ _)); exact BK218.out) NB218_214.out (by simp)); have n3_ := Aside0.mk (hb); have n4_ := Aside0.mk (hi); clear HO_219002; clear BK211; clear BK218; clear HB; clear HI214; have HO_219002 := n0_; have BK211 := n1_; have BK218 := n2_; have HB := n3_; have HI214 := n4_; clear n0_ n1_ n2_ n3_ n4_; (try clear hb); (try clear hb2); (try clear hk); (try clear hi); have hcz62_0 : w61.cell? ⟨gb218, 0, none⟩ = some (.int .i64 t215) := (blk_cell BK218.out 0).trans rfl; have hcz62_1 : w61.cell? ⟨gb218, 1, none⟩ = some (.int .i64 0) := (blk_cell BK218.out 1).trans rfl; have hcz62_2 : w61.cell? ⟨gb218, 2, none⟩ = some (u219002) := (blk_cell BK218.out 2).trans rfl; have hcz62_3 : w61.cell? ⟨gb218, 3, none⟩ = some (.string (⟨#[]⟩ : ByteArray)) := (blk_cell BK218.out 3).trans rfl; have hcz62_4 : w61.cell? ⟨gb218, 4, none⟩ = some (.slice none 0 0) := (blk_cell BK218.out 4).trans rfl; have hfz62_0 := blk_frozen BK218.out 0; have hfz62_1 := blk_frozen BK218.out 1; have hfz62_2 := blk_frozen BK218.out 2; have hfz62_3 := blk_frozen BK218.out 3; have hfz62_4 := blk_frozen BK218.out 4))
                    go_meet
                    case rel => exact ⟨_, (t253), (t254), (0), (x219002_1), (t252), (([] : List ByteArray)), (u219002), (.slice none 0 0), H', ⟨by have := HK1.out; first | omega | exact Nat.le_refl _⟩, ⟨by (with_reducible repeat (first | apply Kd.R_alloc | apply Kd.R_drewN | apply Kd.R_drew)); exact Kd.R_mono (Kd.R_far (p := ⟨gb218, 3, none⟩) (Kd.R_types HO_219002.out BK218.out (by decide)) (fun _ hk => hk.2) (.string t252)) (fun _ hk => (by simp [Value.ownBlock]))⟩, ⟨by first | exact Kd.R_nil _ _ _ _ _ | exact Kd.N_nil _ _ _ _ _ | exact Kd.V_nil _ _ _ _ _ | exact Kd.Q_nil _ _ _ _ _ | exact Kd.S_nil _ _ _ _ _⟩, ⟨by (with_reducible repeat (first | refine blk_drewN ?_ _ | refine blk_drew ?_ | refine blk_alloc ?_ _)); refine blk_far ?_ NB211_218.out _; (with_reducible repeat (first | refine blk_drewN ?_ _ | refine blk_drew ?_ | refine blk_alloc ?_ _)); exact BK211.out⟩, ⟨by (with_reducible repeat (first | refine blk_drewN ?_ _ | refine blk_drew ?_ | refine blk_alloc ?_ _)); refine blk_put (cs := #[.int .i64 t215, .int .i64 0, u219002, .string (⟨#[]⟩ : ByteArray), .slice none 0 0]) ?_ 3 _ rfl; (with_reducible repeat (first | refine blk_drewN ?_ _ | refine blk_drew ?_ | refine blk_alloc ?_ _)); exact BK218.out⟩, ⟨by repeat (first | (with_reducible first | exact HI214.out | apply IsS65.alloc | apply IsS65.drewN | apply IsS65.drew | apply IsS65.set_0 | apply IsS65.set_1 | refine IsS65.far ?_ NB214_211.out _ | refine IsS65.far ?_ NB214_218.out _) | exact HI214.out)⟩, ⟨by repeat (first | (with_reducible first | exact HB.out | apply below_alloc | apply pw_below_drewN | apply below_drew1 | refine below_set ?_ (IsS65.ge HI214.out) | refine below_set ?_ GE211.out | refine below_set ?_ GE218.out) | exact HB.out)⟩⟩
                  · rw [if_neg c55] at H
                    have c55b0 : (t215 == 2) = false := beq_eq_false_iff_ne.mpr c55
                    have c55b1 : (t215 != 2) = true := bne_iff_ne.mpr c55
                    have H' := Aside0.mk H
                    clear H
                    go_wp2_with (first | (go_at_call 31; (with_reducible refine (octets_Reader_Good.calls g214 x215000_1 x215001_1 false t244 t245 w _ ?side1 ?side2 A45.out).mono ?_); (case side1 => repeat (first | (with_reducible first | exact HI214.out | apply IsS65.alloc | apply IsS65.drewN | apply IsS65.drew | apply IsS65.set_0 | apply IsS65.set_1 | refine IsS65.far ?_ NB214_211.out _ | refine IsS65.far ?_ NB214_218.out _) | exact HI214.out)); (case side2 => repeat (first | (with_reducible first | exact HB.out | apply below_alloc | apply pw_below_drewN | apply below_drew1 | refine below_set ?_ (IsS65.ge HI214.out) | refine below_set ?_ GE211.out | refine below_set ?_ GE218.out) | exact HB.out)); rintro e w63 ⟨rfl, hi, hb, hk⟩; have n0_ := Aside0.mk (Kd.R_mono (Kd.R_keep (IsS65.apart (show IsS65 w _ g214 x215000_1 x215001_1 from by repeat (first | (with_reducible first | exact HI214.out | apply IsS65.alloc | apply IsS65.drewN | apply IsS65.drew | apply IsS65.set_0 | apply IsS65.set_1 | refine IsS65.far ?_ NB214_211.out _ | refine IsS65.far ?_ NB214_218.out _) | exact HI214.out)) (by (with_reducible repeat (first | apply Kd.R_alloc | apply Kd.R_drewN | apply Kd.R_drew)); exact HO_219002.out) (by decide)) hk (fun _ h => h.2)) (fun _ h => h.1)); have n1_ := Aside0.mk (KeepBut.blk hk (g' := gb211) (o := .cells #[.int .i64 0, .int .i64 0, .slice none 0 0, .string (⟨#[]⟩ : ByteArray), .slice none 0 0] 24 (0, 0)) (by (with_reducible repeat (first | refine blk_drewN ?_ _ | refine blk_drew ?_ | refine blk_alloc ?_ _)); exact BK211.out) NB211_214.out (by simp)); have n2_ := Aside0.mk (KeepBut.blk hk (g' := gb218) (o := .cells #[.int .i64 t215, .int .i64 0, u219002, .string (⟨#[]⟩ : ByteArray), .slice none 0 0] 24 (0, 0)) (by (with_reducible repeat (first | refine blk_drewN ?_ _ | refine blk_drew ?_ | refine blk_alloc ?_ _)); exact BK218.out) NB218_214.out (by simp)); have n3_ := Aside0.mk (hb); have n4_ := Aside0.mk (hi); clear HO_219002; clear BK211; clear BK218; clear HB; clear HI214; have HO_219002 := n0_; have BK211 := n1_; have BK218 := n2_; have HB := n3_; have HI214 := n4_; clear n0_ n1_ n2_ n3_ n4_; (try clear hb); (try clear hb2); (try clear hk); (try clear hi); have hnb64 := NB218_211.out; have hnc64 := NB211_218.out; have hnb65 := NB218_214.out; have hnc65 := NB214_218.out; have hcz66_0 : w63.cell? ⟨gb218, 0, none⟩ = some (.int .i64 t215) := (blk_cell BK218.out 0).trans rfl; have hcz66_1 : w63.cell? ⟨gb218, 1, none⟩ = some (.int .i64 0) := (blk_cell BK218.out 1).trans rfl; have hcz66_2 : w63.cell? ⟨gb218, 2, none⟩ = some (u219002) := (blk_cell BK218.out 2).trans rfl; have hcz66_3 : w63.cell? ⟨gb218, 3, none⟩ = some (.string (⟨#[]⟩ : ByteArray)) := (blk_cell BK218.out 3).trans rfl; have hcz66_4 : w63.cell? ⟨gb218, 4, none⟩ = some (.slice none 0 0) := (blk_cell BK218.out 4).trans rfl; have hfz66_0 := blk_frozen BK218.out 0; have hfz66_1 := blk_frozen BK218.out 1; have hfz66_2 := blk_frozen BK218.out 2; have hfz66_3 := blk_frozen BK218.out 3; have hfz66_4 := blk_frozen BK218.out 4))
                    go_meet
                    case rel => exact ⟨_, (t244), (t245), (0), (x219002_1), ((⟨#[]⟩ : ByteArray)), (([] : List ByteArray)), (u219002), (.slice none 0 0), H', ⟨by have := HK1.out; first | omega | exact Nat.le_refl _⟩, ⟨by (with_reducible repeat (first | apply Kd.R_alloc | apply Kd.R_drewN | apply Kd.R_drew)); exact Kd.R_mono HO_219002.out (fun _ hk => (by simp [Value.ownBlock]))⟩, ⟨by first | exact Kd.R_nil _ _ _ _ _ | exact Kd.N_nil _ _ _ _ _ | exact Kd.V_nil _ _ _ _ _ | exact Kd.Q_nil _ _ _ _ _ | exact Kd.S_nil _ _ _ _ _⟩, ⟨by (with_reducible repeat (first | refine blk_drewN ?_ _ | refine blk_drew ?_ | refine blk_alloc ?_ _)); exact BK211.out⟩, ⟨by (with_reducible repeat (first | refine blk_drewN ?_ _ | refine blk_drew ?_ | refine blk_alloc ?_ _)); exact BK218.out⟩, ⟨by repeat (first | (with_reducible first | exact HI214.out | apply IsS65.alloc | apply IsS65.drewN | apply IsS65.drew | apply IsS65.set_0 | apply IsS65.set_1 | refine IsS65.far ?_ NB214_211.out _ | refine IsS65.far ?_ NB214_218.out _) | exact HI214.out)⟩, ⟨by repeat (first | (with_reducible first | exact HB.out | apply below_alloc | apply pw_below_drewN | apply below_drew1 | refine below_set ?_ (IsS65.ge HI214.out) | refine below_set ?_ GE211.out | refine below_set ?_ GE218.out) | exact HB.out)⟩⟩
              · rw [if_neg c44] at H
                have c44b0 : decide (0 < x7_1) = false := decide_eq_false c44
                clear c44
                by_cases c67 : t215 = 2
                · rw [if_pos c67] at H
                  have c67b0 : (t215 == 2) = true := beq_iff_eq.mpr c67
                  have c67b1 : (t215 != 2) = false := bne_eq_false_iff_eq.mpr c67
                  clear c67
                  replace H := Option.bind_eq_some_iff.mp H
                  obtain ⟨⟨t255, t256, t257⟩, A680, H⟩ := H
                  replace H : (frame_Decode.j2 k1 t256 t257 t215 0 x219002_1 t255 ([] : List ByteArray)) = some (r1, r2, r3, r4, r5, r6) := H
                  have A68 := Aside0.mk A680
                  clear A680
                  have H' := Aside0.mk H
                  clear H
                  have hnb69 := NB218_211.out
                  have hnc69 := NB211_218.out
                  have hnb70 := NB218_214.out
                  have hnc70 := NB214_218.out
                  have hcz71_0 : wr.cell? ⟨gb218, 0, none⟩ = some (.int .i64 t215) := (blk_cell BK218.out 0).trans rfl
                  have hcz71_1 : wr.cell? ⟨gb218, 1, none⟩ = some (.int .i64 0) := (blk_cell BK218.out 1).trans rfl
                  have hcz71_2 : wr.cell? ⟨gb218, 2, none⟩ = some (u219002) := (blk_cell BK218.out 2).trans rfl
                  have hcz71_3 : wr.cell? ⟨gb218, 3, none⟩ = some (.string (⟨#[]⟩ : ByteArray)) := (blk_cell BK218.out 3).trans rfl
                  have hcz71_4 : wr.cell? ⟨gb218, 4, none⟩ = some (.slice none 0 0) := (blk_cell BK218.out 4).trans rfl
                  have hfz71_0 := blk_frozen BK218.out 0
                  have hfz71_1 := blk_frozen BK218.out 1
                  have hfz71_2 := blk_frozen BK218.out 2
                  have hfz71_3 := blk_frozen BK218.out 3
                  have hfz71_4 := blk_frozen BK218.out 4
                  go_wp2_with (first | ((with_reducible refine gate_callee (f := 30) rfl ?_); refine goesL_ (some 40) rfl rfl Try.func30 (by kernel_rfl) rfl #[.pointer (some ⟨g214, 0, none⟩)] rfl (by (try simp only [List.map_toArray, List.map_cons, List.map_nil]); first | done | rfl | (simp only [List.length_drop, List.length_take]; rfl)) ?_; (with_reducible refine (octets_Reader_Text.calls k1 g214 x215000_1 x215001_1 t255 t256 t257 w _ ?side1 ?side2 A68.out).mono ?_); (case side1 => repeat (first | (with_reducible first | exact HI214.out | apply IsS65.alloc | apply IsS65.drewN | apply IsS65.drew | apply IsS65.set_0 | apply IsS65.set_1 | refine IsS65.far ?_ NB214_211.out _ | refine IsS65.far ?_ NB214_218.out _) | exact HI214.out)); (case side2 => repeat (first | (with_reducible first | exact HB.out | apply below_alloc | apply pw_below_drewN | apply below_drew1 | refine below_set ?_ (IsS65.ge HI214.out) | refine below_set ?_ GE211.out | refine below_set ?_ GE218.out) | exact HB.out)); rintro e w72 ⟨rfl, hi, hb, hk⟩; refine ⟨_, rfl, ?_⟩; have n0_ := Aside0.mk (Kd.R_mono (Kd.R_keep (IsS65.apart (show IsS65 w _ g214 x215000_1 x215001_1 from by repeat (first | (with_reducible first | exact HI214.out | apply IsS65.alloc | apply IsS65.drewN | apply IsS65.drew | apply IsS65.set_0 | apply IsS65.set_1 | refine IsS65.far ?_ NB214_211.out _ | refine IsS65.far ?_ NB214_218.out _) | exact HI214.out)) (by (with_reducible repeat (first | apply Kd.R_alloc | apply Kd.R_drewN | apply Kd.R_drew)); exact HO_219002.out) (by decide)) hk (fun _ h => h.2)) (fun _ h => h.1)); have n1_ := Aside0.mk (KeepBut.blk hk (g' := gb211) (o := .cells #[.int .i64 0, .int .i64 0, .slice none 0 0, .string (⟨#[]⟩ : ByteArray), .slice none 0 0] 24 (0, 0)) (by (with_reducible repeat (first | refine blk_drewN ?_ _ | refine blk_drew ?_ | refine blk_alloc ?_ _)); exact BK211.out) NB211_214.out (by simp)); have n2_ := Aside0.mk (KeepBut.blk hk (g' := gb218) (o := .cells #[.int .i64 t215, .int .i64 0, u219002, .string (⟨#[]⟩ : ByteArray), .slice none 0 0] 24 (0, 0)) (by (with_reducible repeat (first | refine blk_drewN ?_ _ | refine blk_drew ?_ | refine blk_alloc ?_ _)); exact BK218.out) NB218_214.out (by simp)); have n3_ := Aside0.mk (hb); have n4_ := Aside0.mk (hi); clear HO_219002; clear BK211; clear BK218; clear HB; clear HI214; have HO_219002 := n0_; have BK211 := n1_; have BK218 := n2_; have HB := n3_; have HI214 := n4_; clear n0_ n1_ n2_ n3_ n4_; (try clear hb); (try clear hb2); (try clear hk); (try clear hi); have hcz73_0 : w72.cell? ⟨gb218, 0, none⟩ = some (.int .i64 t215) := (blk_cell BK218.out 0).trans rfl; have hcz73_1 : w72.cell? ⟨gb218, 1, none⟩ = some (.int .i64 0) := (blk_cell BK218.out 1).trans rfl; have hcz73_2 : w72.cell? ⟨gb218, 2, none⟩ = some (u219002) := (blk_cell BK218.out 2).trans rfl; have hcz73_3 : w72.cell? ⟨gb218, 3, none⟩ = some (.string (⟨#[]⟩ : ByteArray)) := (blk_cell BK218.out 3).trans rfl; have hcz73_4 : w72.cell? ⟨gb218, 4, none⟩ = some (.slice none 0 0) := (blk_cell BK218.out 4).trans rfl; have hfz73_0 := blk_frozen BK218.out 0; have hfz73_1 := blk_frozen BK218.out 1; have hfz73_2 := blk_frozen BK218.out 2; have hfz73_3 := blk_frozen BK218.out 3; have hfz73_4 := blk_frozen BK218.out 4))
                  go_meet
                  case rel => exact ⟨_, (t256), (t257), (0), (x219002_1), (t255), (([] : List ByteArray)), (u219002), (.slice none 0 0), H', ⟨by have := HK1.out; first | omega | exact Nat.le_refl _⟩, ⟨by (with_reducible repeat (first | apply Kd.R_alloc | apply Kd.R_drewN | apply Kd.R_drew)); exact Kd.R_mono (Kd.R_far (p := ⟨gb218, 3, none⟩) (Kd.R_types HO_219002.out BK218.out (by decide)) (fun _ hk => hk.2) (.string t255)) (fun _ hk => (by simp [Value.ownBlock]))⟩, ⟨by first | exact Kd.R_nil _ _ _ _ _ | exact Kd.N_nil _ _ _ _ _ | exact Kd.V_nil _ _ _ _ _ | exact Kd.Q_nil _ _ _ _ _ | exact Kd.S_nil _ _ _ _ _⟩, ⟨by (with_reducible repeat (first | refine blk_drewN ?_ _ | refine blk_drew ?_ | refine blk_alloc ?_ _)); refine blk_far ?_ NB211_218.out _; (with_reducible repeat (first | refine blk_drewN ?_ _ | refine blk_drew ?_ | refine blk_alloc ?_ _)); exact BK211.out⟩, ⟨by (with_reducible repeat (first | refine blk_drewN ?_ _ | refine blk_drew ?_ | refine blk_alloc ?_ _)); refine blk_put (cs := #[.int .i64 t215, .int .i64 0, u219002, .string (⟨#[]⟩ : ByteArray), .slice none 0 0]) ?_ 3 _ rfl; (with_reducible repeat (first | refine blk_drewN ?_ _ | refine blk_drew ?_ | refine blk_alloc ?_ _)); exact BK218.out⟩, ⟨by repeat (first | (with_reducible first | exact HI214.out | apply IsS65.alloc | apply IsS65.drewN | apply IsS65.drew | apply IsS65.set_0 | apply IsS65.set_1 | refine IsS65.far ?_ NB214_211.out _ | refine IsS65.far ?_ NB214_218.out _) | exact HI214.out)⟩, ⟨by repeat (first | (with_reducible first | exact HB.out | apply below_alloc | apply pw_below_drewN | apply below_drew1 | refine below_set ?_ (IsS65.ge HI214.out) | refine below_set ?_ GE211.out | refine below_set ?_ GE218.out) | exact HB.out)⟩⟩
                · rw [if_neg c67] at H
                  have c67b0 : (t215 == 2) = false := beq_eq_false_iff_ne.mpr c67
                  have c67b1 : (t215 != 2) = true := bne_iff_ne.mpr c67
                  have H' := Aside0.mk H
                  clear H
                  have hnb74 := NB218_211.out
                  have hnc74 := NB211_218.out
                  have hnb75 := NB218_214.out
                  have hnc75 := NB214_218.out
                  have hcz76_0 : wr.cell? ⟨gb218, 0, none⟩ = some (.int .i64 t215) := (blk_cell BK218.out 0).trans rfl
                  have hcz76_1 : wr.cell? ⟨gb218, 1, none⟩ = some (.int .i64 0) := (blk_cell BK218.out 1).trans rfl
                  have hcz76_2 : wr.cell? ⟨gb218, 2, none⟩ = some (u219002) := (blk_cell BK218.out 2).trans rfl
                  have hcz76_3 : wr.cell? ⟨gb218, 3, none⟩ = some (.string (⟨#[]⟩ : ByteArray)) := (blk_cell BK218.out 3).trans rfl
                  have hcz76_4 : wr.cell? ⟨gb218, 4, none⟩ = some (.slice none 0 0) := (blk_cell BK218.out 4).trans rfl
                  have hfz76_0 := blk_frozen BK218.out 0
                  have hfz76_1 := blk_frozen BK218.out 1
                  have hfz76_2 := blk_frozen BK218.out 2
                  have hfz76_3 := blk_frozen BK218.out 3
                  have hfz76_4 := blk_frozen BK218.out 4
                  go_wp2
                  go_meet
                  case rel => exact ⟨_, (x215000_1), (x215001_1), (0), (x219002_1), ((⟨#[]⟩ : ByteArray)), (([] : List ByteArray)), (u219002), (.slice none 0 0), H', ⟨by have := HK1.out; first | omega | exact Nat.le_refl _⟩, ⟨by (with_reducible repeat (first | apply Kd.R_alloc | apply Kd.R_drewN | apply Kd.R_drew)); exact Kd.R_mono HO_219002.out (fun _ hk => (by simp [Value.ownBlock]))⟩, ⟨by first | exact Kd.R_nil _ _ _ _ _ | exact Kd.N_nil _ _ _ _ _ | exact Kd.V_nil _ _ _ _ _ | exact Kd.Q_nil _ _ _ _ _ | exact Kd.S_nil _ _ _ _ _⟩, ⟨by (with_reducible repeat (first | refine blk_drewN ?_ _ | refine blk_drew ?_ | refine blk_alloc ?_ _)); exact BK211.out⟩, ⟨by (with_reducible repeat (first | refine blk_drewN ?_ _ | refine blk_drew ?_ | refine blk_alloc ?_ _)); exact BK218.out⟩, ⟨by repeat (first | (with_reducible first | exact HI214.out | apply IsS65.alloc | apply IsS65.drewN | apply IsS65.drew | apply IsS65.set_0 | apply IsS65.set_1 | refine IsS65.far ?_ NB214_211.out _ | refine IsS65.far ?_ NB214_218.out _) | exact HI214.out)⟩, ⟨by repeat (first | (with_reducible first | exact HB.out | apply below_alloc | apply pw_below_drewN | apply below_drew1 | refine below_set ?_ (IsS65.ge HI214.out) | refine below_set ?_ GE211.out | refine below_set ?_ GE218.out) | exact HB.out)⟩⟩
    case rest =>
      clear HC7
      try clear c1
      try clear c2
      try clear c2b0
      try clear c2b1
      try clear p2
      try clear c3
      try clear c4
      try clear c5
      try clear c6
      try clear p6
      try clear c7
      try clear c12
      try clear c13
      try clear c15
      try clear c15b0
      try clear c15b1
      try clear c19
      try clear c20
      try clear c27
      try clear c27b0
      try clear c27b1
      try clear c28
      try clear c29
      try clear c30
      try clear c30b0
      try clear c32
      try clear c34
      try clear c44
      try clear c44b0
      try clear c46
      try clear c48
      try clear c55
      try clear c55b0
      try clear c55b1
      try clear c58
      try clear c59
      try clear c64
      try clear p64
      try clear c65
      try clear c67
      try clear c67b0
      try clear c67b1
      try clear c69
      try clear c70
      try clear c74
      try clear c75
      try clear hcz14_0
      try clear hcz14_1
      try clear hcz14_2
      try clear hcz14_3
      try clear hcz14_4
      try clear hcz21_0
      try clear hcz21_1
      try clear hcz21_2
      try clear hcz21_3
      try clear hcz21_4
      try clear hcz26_0
      try clear hcz26_1
      try clear hcz26_2
      try clear hcz26_3
      try clear hcz26_4
      try clear hcz4_0
      try clear hcz4_1
      try clear hcz4_2
      try clear hcz4_3
      try clear hcz4_4
      try clear hcz60_0
      try clear hcz60_1
      try clear hcz60_2
      try clear hcz60_3
      try clear hcz60_4
      try clear hcz62_0
      try clear hcz62_1
      try clear hcz62_2
      try clear hcz62_3
      try clear hcz62_4
      try clear hcz66_0
      try clear hcz66_1
      try clear hcz66_2
      try clear hcz66_3
      try clear hcz66_4
      try clear hcz71_0
      try clear hcz71_1
      try clear hcz71_2
      try clear hcz71_3
      try clear hcz71_4
      try clear hcz73_0
      try clear hcz73_1
      try clear hcz73_2
      try clear hcz73_3
      try clear hcz73_4
      try clear hcz76_0
      try clear hcz76_1
      try clear hcz76_2
      try clear hcz76_3
      try clear hcz76_4
      try clear hfz14_0
      try clear hfz14_1
      try clear hfz14_2
      try clear hfz14_3
      try clear hfz14_4
      try clear hfz21_0
      try clear hfz21_1
      try clear hfz21_2
      try clear hfz21_3
      try clear hfz21_4
      try clear hfz26_0
      try clear hfz26_1
      try clear hfz26_2
      try clear hfz26_3
      try clear hfz26_4
      try clear hfz4_0
      try clear hfz4_1
      try clear hfz4_2
      try clear hfz4_3
      try clear hfz4_4
      try clear hfz60_0
      try clear hfz60_1
      try clear hfz60_2
      try clear hfz60_3
      try clear hfz60_4
      try clear hfz62_0
      try clear hfz62_1
      try clear hfz62_2
      try clear hfz62_3
      try clear hfz62_4
      try clear hfz66_0
      try clear hfz66_1
      try clear hfz66_2
      try clear hfz66_3
      try clear hfz66_4
      try clear hfz71_0
      try clear hfz71_1
      try clear hfz71_2
      try clear hfz71_3
      try clear hfz71_4
      try clear hfz73_0
      try clear hfz73_1
      try clear hfz73_2
      try clear hfz73_3
      try clear hfz73_4
      try clear hfz76_0
      try clear hfz76_1
      try clear hfz76_2
      try clear hfz76_3
      try clear hfz76_4
      try clear p2
      try clear p6
      obtain ⟨kq, x215000_6, x215001_6, x219001_6, x219002_6, x219003_6, x219004_6, u219002, u219004, HA, HJ6, HO_219002, HO_219004, BK211, BK218, HI214, HB⟩ := hcut
      cases kq with
      | zero => exact absurd HA.out (by simp [frame_Decode.j2])
      | succ kj6 =>
        have H := HA.out
        clear HA
        simp only [frame_Decode.j2] at H
        replace H := Option.bind_eq_some_iff.mp H
        obtain ⟨⟨t258, t259, t260⟩, A770, H⟩ := H
        replace H : (if t258 = true then ((frame_Right.f kj6 t215 x219001_6 x219002_6 x219003_6 x219004_6).bind fun t261 => (if t261 = true then (some (t215, x219001_6, x219002_6, x219003_6, x219004_6, 0)) else (some (0, 0, ([] : List ByteArray), (⟨#[]⟩ : ByteArray), ([] : List ByteArray), 2)))) else (some (0, 0, ([] : List ByteArray), (⟨#[]⟩ : ByteArray), ([] : List ByteArray), 2))) = some (r1, r2, r3, r4, r5, r6) := H
        have A77 := Aside0.mk A770
        clear A770
        by_cases c78 : t258 = true
        · subst c78
          have H1 : ((frame_Right.f kj6 t215 x219001_6 x219002_6 x219003_6 x219004_6).bind fun t261 => (if t261 = true then (some (t215, x219001_6, x219002_6, x219003_6, x219004_6, 0)) else (some (0, 0, ([] : List ByteArray), (⟨#[]⟩ : ByteArray), ([] : List ByteArray), 2)))) = some (r1, r2, r3, r4, r5, r6) := by rw [if_pos rfl] at H; exact H
          clear H
          have H := H1
          clear H1
          replace H := Option.bind_eq_some_iff.mp H
          obtain ⟨t261, A790, H⟩ := H
          replace H : (if t261 = true then (some (t215, x219001_6, x219002_6, x219003_6, x219004_6, 0)) else (some (0, 0, ([] : List ByteArray), (⟨#[]⟩ : ByteArray), ([] : List ByteArray), 2))) = some (r1, r2, r3, r4, r5, r6) := H
          have A79 := Aside0.mk A790
          clear A790
          by_cases c80 : t261 = true
          · subst c80
            have H1 : (some (t215, x219001_6, x219002_6, x219003_6, x219004_6, 0)) = some (r1, r2, r3, r4, r5, r6) := by rw [if_pos rfl] at H; exact H
            clear H
            have H := H1
            clear H1
            simp only [Option.some.injEq, Prod.mk.injEq] at H
            obtain ⟨rfl, rfl, rfl, rfl, rfl, rfl⟩ := H
            go_wp2_with (first | ((with_reducible refine gate_callee (f := 33) rfl ?_); refine goesL_ (some 71) rfl rfl Try.func33 (by kernel_rfl) rfl #[.pointer (some ⟨g214, 0, none⟩)] rfl (by (try simp only [List.map_toArray, List.map_cons, List.map_nil]); first | done | rfl | (simp only [List.length_drop, List.length_take]; rfl)) ?_; (with_reducible refine (octets_Reader_End.calls g214 x215000_6 x215001_6 true t259 t260 w _ ?side1 ?side2 A77.out).mono ?_); (case side1 => repeat (first | (with_reducible first | exact HI214.out | apply IsS65.alloc | apply IsS65.drewN | apply IsS65.drew | apply IsS65.set_0 | apply IsS65.set_1 | refine IsS65.far ?_ NB214_211.out _ | refine IsS65.far ?_ NB214_218.out _) | exact HI214.out)); (case side2 => repeat (first | (with_reducible first | exact HB.out | apply below_alloc | apply pw_below_drewN | apply below_drew1 | refine below_set ?_ (IsS65.ge HI214.out) | refine below_set ?_ GE211.out | refine below_set ?_ GE218.out) | exact HB.out)); rintro e w81 ⟨rfl, hi, hb, hk⟩; refine ⟨_, rfl, ?_⟩; have n0_ := Aside0.mk (Kd.R_mono (Kd.R_keep (IsS65.apart (show IsS65 w _ g214 x215000_6 x215001_6 from by repeat (first | (with_reducible first | exact HI214.out | apply IsS65.alloc | apply IsS65.drewN | apply IsS65.drew | apply IsS65.set_0 | apply IsS65.set_1 | refine IsS65.far ?_ NB214_211.out _ | refine IsS65.far ?_ NB214_218.out _) | exact HI214.out)) (by (with_reducible repeat (first | apply Kd.R_alloc | apply Kd.R_drewN | apply Kd.R_drew)); exact HO_219002.out) (by decide)) hk (fun _ h => h.2)) (fun _ h => h.1)); have n1_ := Aside0.mk (Kd.R_mono (Kd.R_keep (IsS65.apart (show IsS65 w _ g214 x215000_6 x215001_6 from by repeat (first | (with_reducible first | exact HI214.out | apply IsS65.alloc | apply IsS65.drewN | apply IsS65.drew | apply IsS65.set_0 | apply IsS65.set_1 | refine IsS65.far ?_ NB214_211.out _ | refine IsS65.far ?_ NB214_218.out _) | exact HI214.out)) (by (with_reducible repeat (first | apply Kd.R_alloc | apply Kd.R_drewN | apply Kd.R_drew)); exact HO_219004.out) (by decide)) hk (fun _ h => h.2)) (fun _ h => h.1)); have n2_ := Aside0.mk (KeepBut.blk hk (g' := gb211) (o := .cells #[.int .i64 0, .int .i64 0, .slice none 0 0, .string (⟨#[]⟩ : ByteArray), .slice none 0 0] 24 (0, 0)) (by (with_reducible repeat (first | refine blk_drewN ?_ _ | refine blk_drew ?_ | refine blk_alloc ?_ _)); exact BK211.out) NB211_214.out (by simp)); have n3_ := Aside0.mk (KeepBut.blk hk (g' := gb218) (o := .cells #[.int .i64 t215, .int .i64 x219001_6, u219002, .string x219003_6, u219004] 24 (0, 0)) (by (with_reducible repeat (first | refine blk_drewN ?_ _ | refine blk_drew ?_ | refine blk_alloc ?_ _)); exact BK218.out) NB218_214.out (by simp)); have n4_ := Aside0.mk (hb); have n5_ := Aside0.mk (hi); clear HO_219002; clear HO_219004; clear BK211; clear BK218; clear HB; clear HI214; have HO_219002 := n0_; have HO_219004 := n1_; have BK211 := n2_; have BK218 := n3_; have HB := n4_; have HI214 := n5_; clear n0_ n1_ n2_ n3_ n4_ n5_; (try clear hb); (try clear hb2); (try clear hk); (try clear hi); have hnb82 := NB218_211.out; have hnc82 := NB211_218.out; have hnb83 := NB218_214.out; have hnc83 := NB214_218.out; have hcz84_0 : w81.cell? ⟨gb218, 0, none⟩ = some (.int .i64 t215) := (blk_cell BK218.out 0).trans rfl; have hcz84_1 : w81.cell? ⟨gb218, 1, none⟩ = some (.int .i64 x219001_6) := (blk_cell BK218.out 1).trans rfl; have hcz84_2 : w81.cell? ⟨gb218, 2, none⟩ = some (u219002) := (blk_cell BK218.out 2).trans rfl; have hcz84_3 : w81.cell? ⟨gb218, 3, none⟩ = some (.string x219003_6) := (blk_cell BK218.out 3).trans rfl; have hcz84_4 : w81.cell? ⟨gb218, 4, none⟩ = some (u219004) := (blk_cell BK218.out 4).trans rfl; have hfz84_0 := blk_frozen BK218.out 0; have hfz84_1 := blk_frozen BK218.out 1; have hfz84_2 := blk_frozen BK218.out 2; have hfz84_3 := blk_frozen BK218.out 3; have hfz84_4 := blk_frozen BK218.out 4; obtain ⟨Ao85, co85, eo85⟩ := Kd.R_slice HO_219002.out; subst eo85; obtain ⟨Ao86, co86, eo86⟩ := Kd.R_slice HO_219004.out; subst eo86) | (go_at_call 13; (with_reducible refine (frame_Right.calls kj6 t215 x219001_6 _ _ x219002_6 x219003_6 _ _ x219004_6 true _ ?side1 ?side2 ?side3 ?side4 A79.out).mono ?_); (case side1 => repeat (first | exact (Kd.R_reads' HO_219002.out).2.2 | (with_reducible refine Kd.C_alloc ?_ _) | (with_reducible refine Kd.C_drewN ?_ _) | (with_reducible refine Kd.C_drew ?_))); (case side2 => exact (Kd.R_reads' HO_219002.out).2.1); (case side3 => repeat (first | exact (Kd.R_reads' HO_219004.out).2.2 | (with_reducible refine Kd.C_alloc ?_ _) | (with_reducible refine Kd.C_drewN ?_ _) | (with_reducible refine Kd.C_drew ?_))); (case side4 => exact (Kd.R_reads' HO_219004.out).2.1); rintro e w87 ⟨rfl, hb⟩; have n0_ := Aside0.mk (Kd.R_below (by (with_reducible repeat (first | apply Kd.R_alloc | apply Kd.R_drewN | apply Kd.R_drew)); exact HO_219002.out) hb); have n1_ := Aside0.mk (Kd.R_below (by (with_reducible repeat (first | apply Kd.R_alloc | apply Kd.R_drewN | apply Kd.R_drew)); exact HO_219004.out) hb); have n2_ := Aside0.mk (blk_below (g := gb211) (o := .cells #[.int .i64 0, .int .i64 0, .slice none 0 0, .string (⟨#[]⟩ : ByteArray), .slice none 0 0] 24 (0, 0)) (by (with_reducible repeat (first | refine blk_drewN ?_ _ | refine blk_drew ?_ | refine blk_alloc ?_ _)); exact BK211.out) hb); have n3_ := Aside0.mk (blk_below (g := gb218) (o := .cells #[.int .i64 t215, .int .i64 x219001_6, .slice Ao85 x219002_6.length co85, .string x219003_6, .slice Ao86 x219004_6.length co86] 24 (0, 0)) (by (with_reducible repeat (first | refine blk_drewN ?_ _ | refine blk_drew ?_ | refine blk_alloc ?_ _)); exact BK218.out) hb); have n4_ := Aside0.mk (IsS65.below (by repeat (first | (with_reducible first | exact HI214.out | apply IsS65.alloc | apply IsS65.drewN | apply IsS65.drew | apply IsS65.set_0 | apply IsS65.set_1 | refine IsS65.far ?_ NB214_211.out _ | refine IsS65.far ?_ NB214_218.out _) | exact HI214.out)) hb); have n5_ := Aside0.mk (below_step (by repeat (first | (with_reducible first | exact HB.out | apply below_alloc | apply pw_below_drewN | apply below_drew1 | refine below_set ?_ (IsS65.ge HI214.out) | refine below_set ?_ GE211.out | refine below_set ?_ GE218.out) | exact HB.out)) hb); clear HO_219002; clear HO_219004; clear BK211; clear BK218; clear HI214; clear HB; have HO_219002 := n0_; have HO_219004 := n1_; have BK211 := n2_; have BK218 := n3_; have HI214 := n4_; have HB := n5_; clear n0_ n1_ n2_ n3_ n4_ n5_; (try clear hb); (try clear hb2); (try clear hk); (try clear hi); have hcz88_0 : w87.cell? ⟨gb218, 0, none⟩ = some (.int .i64 t215) := (blk_cell BK218.out 0).trans rfl; have hcz88_1 : w87.cell? ⟨gb218, 1, none⟩ = some (.int .i64 x219001_6) := (blk_cell BK218.out 1).trans rfl; have hcz88_2 : w87.cell? ⟨gb218, 2, none⟩ = some (.slice Ao85 x219002_6.length co85) := (blk_cell BK218.out 2).trans rfl; have hcz88_3 : w87.cell? ⟨gb218, 3, none⟩ = some (.string x219003_6) := (blk_cell BK218.out 3).trans rfl; have hcz88_4 : w87.cell? ⟨gb218, 4, none⟩ = some (.slice Ao86 x219004_6.length co86) := (blk_cell BK218.out 4).trans rfl; have hfz88_0 := blk_frozen BK218.out 0; have hfz88_1 := blk_frozen BK218.out 1; have hfz88_2 := blk_frozen BK218.out 2; have hfz88_3 := blk_frozen BK218.out 3; have hfz88_4 := blk_frozen BK218.out 4; have hnb89 := NB211_214.out; have hnc89 := NB214_211.out; have hcz90_0 : w87.cell? ⟨gb211, 0, none⟩ = some (.int .i64 0) := (blk_cell BK211.out 0).trans rfl; have hcz90_1 : w87.cell? ⟨gb211, 1, none⟩ = some (.int .i64 0) := (blk_cell BK211.out 1).trans rfl; have hcz90_2 : w87.cell? ⟨gb211, 2, none⟩ = some (.slice none 0 0) := (blk_cell BK211.out 2).trans rfl; have hcz90_3 : w87.cell? ⟨gb211, 3, none⟩ = some (.string (⟨#[]⟩ : ByteArray)) := (blk_cell BK211.out 3).trans rfl; have hcz90_4 : w87.cell? ⟨gb211, 4, none⟩ = some (.slice none 0 0) := (blk_cell BK211.out 4).trans rfl; have hfz90_0 := blk_frozen BK211.out 0; have hfz90_1 := blk_frozen BK211.out 1; have hfz90_2 := blk_frozen BK211.out 2; have hfz90_3 := blk_frozen BK211.out 3; have hfz90_4 := blk_frozen BK211.out 4))
            refine bodyPost_ret (results_ct rfl _ _ gb211 24 #[.int .i64 t215, .int .i64 x219001_6, .slice Ao85 x219002_6.length co85, .string x219003_6, .slice Ao86 x219004_6.length co86] (0, 0) _ rfl (by (with_reducible repeat (first | refine blk_drewN ?_ _ | refine blk_drew ?_ | refine blk_alloc ?_ _)); refine blk_put (cs := #[.int .i64 t215, .int .i64 x219001_6, .slice Ao85 x219002_6.length co85, .string x219003_6, .slice none 0 0]) ?_ 4 _ rfl; (with_reducible repeat (first | refine blk_drewN ?_ _ | refine blk_drew ?_ | refine blk_alloc ?_ _)); refine blk_put (cs := #[.int .i64 t215, .int .i64 x219001_6, .slice Ao85 x219002_6.length co85, .string (⟨#[]⟩ : ByteArray), .slice none 0 0]) ?_ 3 _ rfl; (with_reducible repeat (first | refine blk_drewN ?_ _ | refine blk_drew ?_ | refine blk_alloc ?_ _)); refine blk_put (cs := #[.int .i64 t215, .int .i64 x219001_6, .slice none 0 0, .string (⟨#[]⟩ : ByteArray), .slice none 0 0]) ?_ 2 _ rfl; (with_reducible repeat (first | refine blk_drewN ?_ _ | refine blk_drew ?_ | refine blk_alloc ?_ _)); refine blk_put (cs := #[.int .i64 t215, .int .i64 0, .slice none 0 0, .string (⟨#[]⟩ : ByteArray), .slice none 0 0]) ?_ 1 _ rfl; (with_reducible repeat (first | refine blk_drewN ?_ _ | refine blk_drew ?_ | refine blk_alloc ?_ _)); refine blk_put (cs := #[.int .i64 0, .int .i64 0, .slice none 0 0, .string (⟨#[]⟩ : ByteArray), .slice none 0 0]) ?_ 0 _ rfl; (with_reducible repeat (first | refine blk_drewN ?_ _ | refine blk_drew ?_ | refine blk_alloc ?_ _)); exact BK211.out) Try.underlying24 rfl (by kernel_rfl)) rfl ?_
            exact ⟨_, _, by first | rfl | (simp [errW_none, errW_some] <;> rfl) | (simp [*, errW_none, errW_some] <;> rfl), by (with_reducible repeat (first | apply Kd.R_alloc | apply Kd.R_drewN | apply Kd.R_drew)); exact Kd.R_mono (Kd.R_far (p := ⟨gb211, 4, none⟩) (Kd.R_far (p := ⟨gb211, 3, none⟩) (Kd.R_far (p := ⟨gb211, 2, none⟩) (Kd.R_far (p := ⟨gb211, 1, none⟩) (Kd.R_far (p := ⟨gb211, 0, none⟩) (Kd.R_types HO_219002.out BK211.out (by decide)) (fun _ hk => hk.2) (.int .i64 t215)) (fun _ hk => hk.2) (.int .i64 x219001_6)) (fun _ hk => hk.2) (.slice Ao85 x219002_6.length co85)) (fun _ hk => hk.2) (.string x219003_6)) (fun _ hk => hk.2) (.slice Ao86 x219004_6.length co86)) (fun _ hk => hk.1), by (with_reducible repeat (first | apply Kd.R_alloc | apply Kd.R_drewN | apply Kd.R_drew)); exact Kd.R_mono (Kd.R_far (p := ⟨gb211, 4, none⟩) (Kd.R_far (p := ⟨gb211, 3, none⟩) (Kd.R_far (p := ⟨gb211, 2, none⟩) (Kd.R_far (p := ⟨gb211, 1, none⟩) (Kd.R_far (p := ⟨gb211, 0, none⟩) (Kd.R_types HO_219004.out BK211.out (by decide)) (fun _ hk => hk.2) (.int .i64 t215)) (fun _ hk => hk.2) (.int .i64 x219001_6)) (fun _ hk => hk.2) (.slice Ao85 x219002_6.length co85)) (fun _ hk => hk.2) (.string x219003_6)) (fun _ hk => hk.2) (.slice Ao86 x219004_6.length co86)) (fun _ hk => hk.1), by repeat (first | (with_reducible first | exact HB.out | apply below_alloc | apply pw_below_drewN | apply below_drew1 | refine below_set ?_ (IsS65.ge HI214.out) | refine below_set ?_ GE211.out | refine below_set ?_ GE218.out) | exact HB.out)⟩
          · replace c80 := Bool.eq_false_iff.mpr c80
            subst c80
            have H1 : (some (0, 0, ([] : List ByteArray), (⟨#[]⟩ : ByteArray), ([] : List ByteArray), 2)) = some (r1, r2, r3, r4, r5, r6) := by rw [if_neg (show ¬ (false = true) by decide)] at H; exact H
            clear H
            have H := H1
            clear H1
            simp only [Option.some.injEq, Prod.mk.injEq] at H
            obtain ⟨rfl, rfl, rfl, rfl, rfl, rfl⟩ := H
            go_wp2_with (first | ((with_reducible refine gate_callee (f := 33) rfl ?_); refine goesL_ (some 71) rfl rfl Try.func33 (by kernel_rfl) rfl #[.pointer (some ⟨g214, 0, none⟩)] rfl (by (try simp only [List.map_toArray, List.map_cons, List.map_nil]); first | done | rfl | (simp only [List.length_drop, List.length_take]; rfl)) ?_; (with_reducible refine (octets_Reader_End.calls g214 x215000_6 x215001_6 true t259 t260 w _ ?side1 ?side2 A77.out).mono ?_); (case side1 => repeat (first | (with_reducible first | exact HI214.out | apply IsS65.alloc | apply IsS65.drewN | apply IsS65.drew | apply IsS65.set_0 | apply IsS65.set_1 | refine IsS65.far ?_ NB214_211.out _ | refine IsS65.far ?_ NB214_218.out _) | exact HI214.out)); (case side2 => repeat (first | (with_reducible first | exact HB.out | apply below_alloc | apply pw_below_drewN | apply below_drew1 | refine below_set ?_ (IsS65.ge HI214.out) | refine below_set ?_ GE211.out | refine below_set ?_ GE218.out) | exact HB.out)); rintro e w91 ⟨rfl, hi, hb, hk⟩; refine ⟨_, rfl, ?_⟩; have n0_ := Aside0.mk (Kd.R_mono (Kd.R_keep (IsS65.apart (show IsS65 w _ g214 x215000_6 x215001_6 from by repeat (first | (with_reducible first | exact HI214.out | apply IsS65.alloc | apply IsS65.drewN | apply IsS65.drew | apply IsS65.set_0 | apply IsS65.set_1 | refine IsS65.far ?_ NB214_211.out _ | refine IsS65.far ?_ NB214_218.out _) | exact HI214.out)) (by (with_reducible repeat (first | apply Kd.R_alloc | apply Kd.R_drewN | apply Kd.R_drew)); exact HO_219002.out) (by decide)) hk (fun _ h => h.2)) (fun _ h => h.1)); have n1_ := Aside0.mk (Kd.R_mono (Kd.R_keep (IsS65.apart (show IsS65 w _ g214 x215000_6 x215001_6 from by repeat (first | (with_reducible first | exact HI214.out | apply IsS65.alloc | apply IsS65.drewN | apply IsS65.drew | apply IsS65.set_0 | apply IsS65.set_1 | refine IsS65.far ?_ NB214_211.out _ | refine IsS65.far ?_ NB214_218.out _) | exact HI214.out)) (by (with_reducible repeat (first | apply Kd.R_alloc | apply Kd.R_drewN | apply Kd.R_drew)); exact HO_219004.out) (by decide)) hk (fun _ h => h.2)) (fun _ h => h.1)); have n2_ := Aside0.mk (KeepBut.blk hk (g' := gb211) (o := .cells #[.int .i64 0, .int .i64 0, .slice none 0 0, .string (⟨#[]⟩ : ByteArray), .slice none 0 0] 24 (0, 0)) (by (with_reducible repeat (first | refine blk_drewN ?_ _ | refine blk_drew ?_ | refine blk_alloc ?_ _)); exact BK211.out) NB211_214.out (by simp)); have n3_ := Aside0.mk (KeepBut.blk hk (g' := gb218) (o := .cells #[.int .i64 t215, .int .i64 x219001_6, u219002, .string x219003_6, u219004] 24 (0, 0)) (by (with_reducible repeat (first | refine blk_drewN ?_ _ | refine blk_drew ?_ | refine blk_alloc ?_ _)); exact BK218.out) NB218_214.out (by simp)); have n4_ := Aside0.mk (hb); have n5_ := Aside0.mk (hi); clear HO_219002; clear HO_219004; clear BK211; clear BK218; clear HB; clear HI214; have HO_219002 := n0_; have HO_219004 := n1_; have BK211 := n2_; have BK218 := n3_; have HB := n4_; have HI214 := n5_; clear n0_ n1_ n2_ n3_ n4_ n5_; (try clear hb); (try clear hb2); (try clear hk); (try clear hi); have hnb92 := NB218_211.out; have hnc92 := NB211_218.out; have hnb93 := NB218_214.out; have hnc93 := NB214_218.out; have hcz94_0 : w91.cell? ⟨gb218, 0, none⟩ = some (.int .i64 t215) := (blk_cell BK218.out 0).trans rfl; have hcz94_1 : w91.cell? ⟨gb218, 1, none⟩ = some (.int .i64 x219001_6) := (blk_cell BK218.out 1).trans rfl; have hcz94_2 : w91.cell? ⟨gb218, 2, none⟩ = some (u219002) := (blk_cell BK218.out 2).trans rfl; have hcz94_3 : w91.cell? ⟨gb218, 3, none⟩ = some (.string x219003_6) := (blk_cell BK218.out 3).trans rfl; have hcz94_4 : w91.cell? ⟨gb218, 4, none⟩ = some (u219004) := (blk_cell BK218.out 4).trans rfl; have hfz94_0 := blk_frozen BK218.out 0; have hfz94_1 := blk_frozen BK218.out 1; have hfz94_2 := blk_frozen BK218.out 2; have hfz94_3 := blk_frozen BK218.out 3; have hfz94_4 := blk_frozen BK218.out 4; obtain ⟨Ao95, co95, eo95⟩ := Kd.R_slice HO_219002.out; subst eo95; obtain ⟨Ao96, co96, eo96⟩ := Kd.R_slice HO_219004.out; subst eo96) | (go_at_call 13; (with_reducible refine (frame_Right.calls kj6 t215 x219001_6 _ _ x219002_6 x219003_6 _ _ x219004_6 false _ ?side1 ?side2 ?side3 ?side4 A79.out).mono ?_); (case side1 => repeat (first | exact (Kd.R_reads' HO_219002.out).2.2 | (with_reducible refine Kd.C_alloc ?_ _) | (with_reducible refine Kd.C_drewN ?_ _) | (with_reducible refine Kd.C_drew ?_))); (case side2 => exact (Kd.R_reads' HO_219002.out).2.1); (case side3 => repeat (first | exact (Kd.R_reads' HO_219004.out).2.2 | (with_reducible refine Kd.C_alloc ?_ _) | (with_reducible refine Kd.C_drewN ?_ _) | (with_reducible refine Kd.C_drew ?_))); (case side4 => exact (Kd.R_reads' HO_219004.out).2.1); rintro e w97 ⟨rfl, hb⟩; have n0_ := Aside0.mk (Kd.R_below (by (with_reducible repeat (first | apply Kd.R_alloc | apply Kd.R_drewN | apply Kd.R_drew)); exact HO_219002.out) hb); have n1_ := Aside0.mk (Kd.R_below (by (with_reducible repeat (first | apply Kd.R_alloc | apply Kd.R_drewN | apply Kd.R_drew)); exact HO_219004.out) hb); have n2_ := Aside0.mk (blk_below (g := gb211) (o := .cells #[.int .i64 0, .int .i64 0, .slice none 0 0, .string (⟨#[]⟩ : ByteArray), .slice none 0 0] 24 (0, 0)) (by (with_reducible repeat (first | refine blk_drewN ?_ _ | refine blk_drew ?_ | refine blk_alloc ?_ _)); exact BK211.out) hb); have n3_ := Aside0.mk (blk_below (g := gb218) (o := .cells #[.int .i64 t215, .int .i64 x219001_6, .slice Ao95 x219002_6.length co95, .string x219003_6, .slice Ao96 x219004_6.length co96] 24 (0, 0)) (by (with_reducible repeat (first | refine blk_drewN ?_ _ | refine blk_drew ?_ | refine blk_alloc ?_ _)); exact BK218.out) hb); have n4_ := Aside0.mk (IsS65.below (by repeat (first | (with_reducible first | exact HI214.out | apply IsS65.alloc | apply IsS65.drewN | apply IsS65.drew | apply IsS65.set_0 | apply IsS65.set_1 | refine IsS65.far ?_ NB214_211.out _ | refine IsS65.far ?_ NB214_218.out _) | exact HI214.out)) hb); have n5_ := Aside0.mk (below_step (by repeat (first | (with_reducible first | exact HB.out | apply below_alloc | apply pw_below_drewN | apply below_drew1 | refine below_set ?_ (IsS65.ge HI214.out) | refine below_set ?_ GE211.out | refine below_set ?_ GE218.out) | exact HB.out)) hb); clear HO_219002; clear HO_219004; clear BK211; clear BK218; clear HI214; clear HB; have HO_219002 := n0_; have HO_219004 := n1_; have BK211 := n2_; have BK218 := n3_; have HI214 := n4_; have HB := n5_; clear n0_ n1_ n2_ n3_ n4_ n5_; (try clear hb); (try clear hb2); (try clear hk); (try clear hi); have hnb98 := NB211_214.out; have hnc98 := NB214_211.out; have hcz99_0 : w97.cell? ⟨gb211, 0, none⟩ = some (.int .i64 0) := (blk_cell BK211.out 0).trans rfl; have hcz99_1 : w97.cell? ⟨gb211, 1, none⟩ = some (.int .i64 0) := (blk_cell BK211.out 1).trans rfl; have hcz99_2 : w97.cell? ⟨gb211, 2, none⟩ = some (.slice none 0 0) := (blk_cell BK211.out 2).trans rfl; have hcz99_3 : w97.cell? ⟨gb211, 3, none⟩ = some (.string (⟨#[]⟩ : ByteArray)) := (blk_cell BK211.out 3).trans rfl; have hcz99_4 : w97.cell? ⟨gb211, 4, none⟩ = some (.slice none 0 0) := (blk_cell BK211.out 4).trans rfl; have hfz99_0 := blk_frozen BK211.out 0; have hfz99_1 := blk_frozen BK211.out 1; have hfz99_2 := blk_frozen BK211.out 2; have hfz99_3 := blk_frozen BK211.out 3; have hfz99_4 := blk_frozen BK211.out 4))
            refine bodyPost_ret (results_ct rfl _ _ gb211 24 #[.int .i64 0, .int .i64 0, .slice none 0 0, .string (⟨#[]⟩ : ByteArray), .slice none 0 0] (0, 0) _ rfl (by (with_reducible repeat (first | refine blk_drewN ?_ _ | refine blk_drew ?_ | refine blk_alloc ?_ _)); refine blk_put (cs := #[.int .i64 0, .int .i64 0, .slice none 0 0, .string (⟨#[]⟩ : ByteArray), .slice none 0 0]) ?_ 4 _ rfl; (with_reducible repeat (first | refine blk_drewN ?_ _ | refine blk_drew ?_ | refine blk_alloc ?_ _)); refine blk_put (cs := #[.int .i64 0, .int .i64 0, .slice none 0 0, .string (⟨#[]⟩ : ByteArray), .slice none 0 0]) ?_ 3 _ rfl; (with_reducible repeat (first | refine blk_drewN ?_ _ | refine blk_drew ?_ | refine blk_alloc ?_ _)); refine blk_put (cs := #[.int .i64 0, .int .i64 0, .slice none 0 0, .string (⟨#[]⟩ : ByteArray), .slice none 0 0]) ?_ 2 _ rfl; (with_reducible repeat (first | refine blk_drewN ?_ _ | refine blk_drew ?_ | refine blk_alloc ?_ _)); refine blk_put (cs := #[.int .i64 0, .int .i64 0, .slice none 0 0, .string (⟨#[]⟩ : ByteArray), .slice none 0 0]) ?_ 1 _ rfl; (with_reducible repeat (first | refine blk_drewN ?_ _ | refine blk_drew ?_ | refine blk_alloc ?_ _)); refine blk_put (cs := #[.int .i64 0, .int .i64 0, .slice none 0 0, .string (⟨#[]⟩ : ByteArray), .slice none 0 0]) ?_ 0 _ rfl; (with_reducible repeat (first | refine blk_drewN ?_ _ | refine blk_drew ?_ | refine blk_alloc ?_ _)); exact BK211.out) Try.underlying24 rfl (by kernel_rfl)) rfl ?_
            exact ⟨_, _, by first | rfl | (simp [errW_none, errW_some] <;> rfl) | (simp [*, errW_none, errW_some] <;> rfl), by first | exact Kd.R_nil _ _ _ _ _ | exact Kd.N_nil _ _ _ _ _ | exact Kd.V_nil _ _ _ _ _ | exact Kd.Q_nil _ _ _ _ _ | exact Kd.S_nil _ _ _ _ _, by first | exact Kd.R_nil _ _ _ _ _ | exact Kd.N_nil _ _ _ _ _ | exact Kd.V_nil _ _ _ _ _ | exact Kd.Q_nil _ _ _ _ _ | exact Kd.S_nil _ _ _ _ _, by repeat (first | (with_reducible first | exact HB.out | apply below_alloc | apply pw_below_drewN | apply below_drew1 | refine below_set ?_ (IsS65.ge HI214.out) | refine below_set ?_ GE211.out | refine below_set ?_ GE218.out) | exact HB.out)⟩
        · replace c78 := Bool.eq_false_iff.mpr c78
          subst c78
          have H1 : (some (0, 0, ([] : List ByteArray), (⟨#[]⟩ : ByteArray), ([] : List ByteArray), 2)) = some (r1, r2, r3, r4, r5, r6) := by rw [if_neg (show ¬ (false = true) by decide)] at H; exact H
          clear H
          have H := H1
          clear H1
          simp only [Option.some.injEq, Prod.mk.injEq] at H
          obtain ⟨rfl, rfl, rfl, rfl, rfl, rfl⟩ := H
          go_wp2_with (first | ((with_reducible refine gate_callee (f := 33) rfl ?_); refine goesL_ (some 71) rfl rfl Try.func33 (by kernel_rfl) rfl #[.pointer (some ⟨g214, 0, none⟩)] rfl (by (try simp only [List.map_toArray, List.map_cons, List.map_nil]); first | done | rfl | (simp only [List.length_drop, List.length_take]; rfl)) ?_; (with_reducible refine (octets_Reader_End.calls g214 x215000_6 x215001_6 false t259 t260 w _ ?side1 ?side2 A77.out).mono ?_); (case side1 => repeat (first | (with_reducible first | exact HI214.out | apply IsS65.alloc | apply IsS65.drewN | apply IsS65.drew | apply IsS65.set_0 | apply IsS65.set_1 | refine IsS65.far ?_ NB214_211.out _ | refine IsS65.far ?_ NB214_218.out _) | exact HI214.out)); (case side2 => repeat (first | (with_reducible first | exact HB.out | apply below_alloc | apply pw_below_drewN | apply below_drew1 | refine below_set ?_ (IsS65.ge HI214.out) | refine below_set ?_ GE211.out | refine below_set ?_ GE218.out) | exact HB.out)); rintro e w100 ⟨rfl, hi, hb, hk⟩; refine ⟨_, rfl, ?_⟩; have n0_ := Aside0.mk (Kd.R_mono (Kd.R_keep (IsS65.apart (show IsS65 w _ g214 x215000_6 x215001_6 from by repeat (first | (with_reducible first | exact HI214.out | apply IsS65.alloc | apply IsS65.drewN | apply IsS65.drew | apply IsS65.set_0 | apply IsS65.set_1 | refine IsS65.far ?_ NB214_211.out _ | refine IsS65.far ?_ NB214_218.out _) | exact HI214.out)) (by (with_reducible repeat (first | apply Kd.R_alloc | apply Kd.R_drewN | apply Kd.R_drew)); exact HO_219002.out) (by decide)) hk (fun _ h => h.2)) (fun _ h => h.1)); have n1_ := Aside0.mk (Kd.R_mono (Kd.R_keep (IsS65.apart (show IsS65 w _ g214 x215000_6 x215001_6 from by repeat (first | (with_reducible first | exact HI214.out | apply IsS65.alloc | apply IsS65.drewN | apply IsS65.drew | apply IsS65.set_0 | apply IsS65.set_1 | refine IsS65.far ?_ NB214_211.out _ | refine IsS65.far ?_ NB214_218.out _) | exact HI214.out)) (by (with_reducible repeat (first | apply Kd.R_alloc | apply Kd.R_drewN | apply Kd.R_drew)); exact HO_219004.out) (by decide)) hk (fun _ h => h.2)) (fun _ h => h.1)); have n2_ := Aside0.mk (KeepBut.blk hk (g' := gb211) (o := .cells #[.int .i64 0, .int .i64 0, .slice none 0 0, .string (⟨#[]⟩ : ByteArray), .slice none 0 0] 24 (0, 0)) (by (with_reducible repeat (first | refine blk_drewN ?_ _ | refine blk_drew ?_ | refine blk_alloc ?_ _)); exact BK211.out) NB211_214.out (by simp)); have n3_ := Aside0.mk (KeepBut.blk hk (g' := gb218) (o := .cells #[.int .i64 t215, .int .i64 x219001_6, u219002, .string x219003_6, u219004] 24 (0, 0)) (by (with_reducible repeat (first | refine blk_drewN ?_ _ | refine blk_drew ?_ | refine blk_alloc ?_ _)); exact BK218.out) NB218_214.out (by simp)); have n4_ := Aside0.mk (hb); have n5_ := Aside0.mk (hi); clear HO_219002; clear HO_219004; clear BK211; clear BK218; clear HB; clear HI214; have HO_219002 := n0_; have HO_219004 := n1_; have BK211 := n2_; have BK218 := n3_; have HB := n4_; have HI214 := n5_; clear n0_ n1_ n2_ n3_ n4_ n5_; (try clear hb); (try clear hb2); (try clear hk); (try clear hi); have hnb101 := NB211_218.out; have hnc101 := NB218_211.out; have hnb102 := NB211_214.out; have hnc102 := NB214_211.out; have hcz103_0 : w100.cell? ⟨gb211, 0, none⟩ = some (.int .i64 0) := (blk_cell BK211.out 0).trans rfl; have hcz103_1 : w100.cell? ⟨gb211, 1, none⟩ = some (.int .i64 0) := (blk_cell BK211.out 1).trans rfl; have hcz103_2 : w100.cell? ⟨gb211, 2, none⟩ = some (.slice none 0 0) := (blk_cell BK211.out 2).trans rfl; have hcz103_3 : w100.cell? ⟨gb211, 3, none⟩ = some (.string (⟨#[]⟩ : ByteArray)) := (blk_cell BK211.out 3).trans rfl; have hcz103_4 : w100.cell? ⟨gb211, 4, none⟩ = some (.slice none 0 0) := (blk_cell BK211.out 4).trans rfl; have hfz103_0 := blk_frozen BK211.out 0; have hfz103_1 := blk_frozen BK211.out 1; have hfz103_2 := blk_frozen BK211.out 2; have hfz103_3 := blk_frozen BK211.out 3; have hfz103_4 := blk_frozen BK211.out 4))
          refine bodyPost_ret (results_ct rfl _ _ gb211 24 #[.int .i64 0, .int .i64 0, .slice none 0 0, .string (⟨#[]⟩ : ByteArray), .slice none 0 0] (0, 0) _ rfl (by (with_reducible repeat (first | refine blk_drewN ?_ _ | refine blk_drew ?_ | refine blk_alloc ?_ _)); refine blk_put (cs := #[.int .i64 0, .int .i64 0, .slice none 0 0, .string (⟨#[]⟩ : ByteArray), .slice none 0 0]) ?_ 4 _ rfl; (with_reducible repeat (first | refine blk_drewN ?_ _ | refine blk_drew ?_ | refine blk_alloc ?_ _)); refine blk_put (cs := #[.int .i64 0, .int .i64 0, .slice none 0 0, .string (⟨#[]⟩ : ByteArray), .slice none 0 0]) ?_ 3 _ rfl; (with_reducible repeat (first | refine blk_drewN ?_ _ | refine blk_drew ?_ | refine blk_alloc ?_ _)); refine blk_put (cs := #[.int .i64 0, .int .i64 0, .slice none 0 0, .string (⟨#[]⟩ : ByteArray), .slice none 0 0]) ?_ 2 _ rfl; (with_reducible repeat (first | refine blk_drewN ?_ _ | refine blk_drew ?_ | refine blk_alloc ?_ _)); refine blk_put (cs := #[.int .i64 0, .int .i64 0, .slice none 0 0, .string (⟨#[]⟩ : ByteArray), .slice none 0 0]) ?_ 1 _ rfl; (with_reducible repeat (first | refine blk_drewN ?_ _ | refine blk_drew ?_ | refine blk_alloc ?_ _)); refine blk_put (cs := #[.int .i64 0, .int .i64 0, .slice none 0 0, .string (⟨#[]⟩ : ByteArray), .slice none 0 0]) ?_ 0 _ rfl; (with_reducible repeat (first | refine blk_drewN ?_ _ | refine blk_drew ?_ | refine blk_alloc ?_ _)); exact BK211.out) Try.underlying24 rfl (by kernel_rfl)) rfl ?_
          exact ⟨_, _, by first | rfl | (simp [errW_none, errW_some] <;> rfl) | (simp [*, errW_none, errW_some] <;> rfl), by first | exact Kd.R_nil _ _ _ _ _ | exact Kd.N_nil _ _ _ _ _ | exact Kd.V_nil _ _ _ _ _ | exact Kd.Q_nil _ _ _ _ _ | exact Kd.S_nil _ _ _ _ _, by first | exact Kd.R_nil _ _ _ _ _ | exact Kd.N_nil _ _ _ _ _ | exact Kd.V_nil _ _ _ _ _ | exact Kd.Q_nil _ _ _ _ _ | exact Kd.S_nil _ _ _ _ _, by repeat (first | (with_reducible first | exact HB.out | apply below_alloc | apply pw_below_drewN | apply below_drew1 | refine below_set ?_ (IsS65.ge HI214.out) | refine below_set ?_ GE211.out | refine below_set ?_ GE218.out) | exact HB.out)⟩

end Go.Proofs.Ytbiempnleljciaa.PP
