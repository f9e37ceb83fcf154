-- WRITTEN BY a program of this work (wip/ownprint.py), for this seat
import Derived.Test.YtmnppogihmhdgaaDoorPPx0
import Derived.Test.YtmnppogihmhdgaaDoorPPx8
namespace Go.Proofs.YtmnppogihmhdgaaDoor.PP
open Go.RowKit Go.Proofs.YtmnppogihmhdgaaDoorW.PrintWords Go.Proofs.YtmnppogihmhdgaaDoorW.PrintLast Go.Proofs.YtmnppogihmhdgaaDoorW.PrintMore
attribute [local go_sem] max2_int min2_int max_two min_two max_three min_three max_four min_four   -- for this text's walks alone
set_option linter.unusedVariables false
set_option linter.unusedSimpArgs false

/-! ### palaverref04_Fold: function 17 -/
mutual
def palaverref04_Fold.j1 : Nat → ByteArray → Int → List ByteArray → Int → Option (ByteArray × List ByteArray × Bool)
 | 0, _, _, _, _ => none
 | k + 1, x0, x1, x2, x9 => if (x2.length : Int) > 4 then (palaverref04_Fold.j2 k x0 x1 x2 true) else (if x1 < 0 then (palaverref04_Fold.j2 k x0 x1 x2 true) else (palaverref04_Fold.j2 k x0 x1 x2 (decide (x1 ≥ x9))))
def palaverref04_Fold.j2 : Nat → ByteArray → Int → List ByteArray → Bool → Option (ByteArray × List ByteArray × Bool)
 | 0, _, _, _, _ => none
 | k + 1, x0, x1, x2, x38 => if x38 = true then (some ((⟨#[]⟩ : ByteArray), ([] : List ByteArray), false)) else (palaverref04_Fold.l1 k x0 x1 x2 ([] : List ByteArray) 0)
def palaverref04_Fold.l1 : Nat → ByteArray → Int → List ByteArray → List ByteArray → Int → Option (ByteArray × List ByteArray × Bool)
 | 0, _, _, _, _, _ => none
 | k + 1, x0, x1, x2, x11, x12 => if x12 < (x2.length : Int) then (if 0 ≤ x12 then (if (Int.tmod x1 2) = 1 then ((palaverref02_Input.f k 4 (([rdOf ByteArray.empty x2 x12, x0] : List ByteArray))).bind fun t331 => (if x11.length < 8796093022208 then ((palaverref02_Tag.f k 4 (([rdOf ByteArray.empty x2 x12, x0] : List ByteArray))).bind fun t338 => (palaverref04_Fold.l1 k t338 (wrap64 (Int.tdiv x1 2)) x2 (x11 ++ [t331]) (wrap64 (x12 + 1)))) else (none))) else ((palaverref02_Input.f k 4 (([x0, rdOf ByteArray.empty x2 x12] : List ByteArray))).bind fun t342 => (if x11.length < 8796093022208 then ((palaverref02_Tag.f k 4 (([x0, rdOf ByteArray.empty x2 x12] : List ByteArray))).bind fun t349 => (palaverref04_Fold.l1 k t349 (wrap64 (Int.tdiv x1 2)) x2 (x11 ++ [t342]) (wrap64 (x12 + 1)))) else (none)))) else (none)) else (some (x0, x11, true))
def palaverref04_Fold.l0 : Nat → ByteArray → Int → List ByteArray → Int → Int → Option (ByteArray × List ByteArray × Bool)
 | 0, _, _, _, _, _ => none
 | k + 1, x0, x1, x2, x9, x10 => if x10 < (x2.length : Int) then (if x10 < 5 then (palaverref04_Fold.l0 k x0 x1 x2 (wrap64 (2 * x9)) (wrap64 (x10 + 1))) else (palaverref04_Fold.j1 k x0 x1 x2 x9)) else (palaverref04_Fold.j1 k x0 x1 x2 x9)
end
def palaverref04_Fold.f (k : Nat) (a0 : ByteArray) (a1 : Int) (l2 : List ByteArray) : Option (ByteArray × List ByteArray × Bool) := palaverref04_Fold.l0 k a0 a1 l2 1 0
theorem palaverref04_Fold.mono_l : ∀ k, (∀ y0 y1 y2 y3, LeO (palaverref04_Fold.j1 k y0 y1 y2 y3) (palaverref04_Fold.j1 (k + 1) y0 y1 y2 y3)) ∧ (∀ y0 y1 y2 y3, LeO (palaverref04_Fold.j2 k y0 y1 y2 y3) (palaverref04_Fold.j2 (k + 1) y0 y1 y2 y3)) ∧ (∀ y0 y1 y2 y3 y4, LeO (palaverref04_Fold.l1 k y0 y1 y2 y3 y4) (palaverref04_Fold.l1 (k + 1) y0 y1 y2 y3 y4)) ∧ (∀ y0 y1 y2 y3 y4, LeO (palaverref04_Fold.l0 k y0 y1 y2 y3 y4) (palaverref04_Fold.l0 (k + 1) y0 y1 y2 y3 y4))
 | 0 => ⟨fun _ _ _ _ r h => by simp [palaverref04_Fold.j1] at h, fun _ _ _ _ r h => by simp [palaverref04_Fold.j2] at h, fun _ _ _ _ _ r h => by simp [palaverref04_Fold.l1] at h, fun _ _ _ _ _ r h => by simp [palaverref04_Fold.l0] at h⟩
 | k + 1 => by
  obtain ⟨ih0, ih1, ih2, ih3⟩ := palaverref04_Fold.mono_l k
  refine ⟨?_, ?_, ?_, ?_⟩
  ·intro y0 y1 y2 y3
   unfold palaverref04_Fold.j1
   repeat' first
   | (with_reducible exact ih0 _ _ _ _)
   | (with_reducible exact ih1 _ _ _ _)
   | (with_reducible exact ih2 _ _ _ _ _)
   | (with_reducible exact ih3 _ _ _ _ _)
   | (with_reducible exact palaverref02_Input.mono _ _ _)
   | (with_reducible exact palaverref02_Tag.mono _ _ _)
   | (with_reducible exact LeO.refl _)
   | (with_reducible exact LeO.none _)
   | (with_reducible refine LeO.ite ?_ ?_)
   | (with_reducible refine LeO.bind ?_ (fun _ => ?_))
   | exact ih0 _ _ _ _
   | exact ih1 _ _ _ _
   | exact ih2 _ _ _ _ _
   | exact ih3 _ _ _ _ _
   | exact palaverref02_Input.mono _ _ _
   | exact palaverref02_Tag.mono _ _ _
   | exact LeO.none _
   | refine LeO.ite ?_ ?_
   | refine LeO.bind ?_ (fun _ => ?_)
  ·intro y0 y1 y2 y3
   unfold palaverref04_Fold.j2
   repeat' first
   | (with_reducible exact ih0 _ _ _ _)
   | (with_reducible exact ih1 _ _ _ _)
   | (with_reducible exact ih2 _ _ _ _ _)
   | (with_reducible exact ih3 _ _ _ _ _)
   | (with_reducible exact palaverref02_Input.mono _ _ _)
   | (with_reducible exact palaverref02_Tag.mono _ _ _)
   | (with_reducible exact LeO.refl _)
   | (with_reducible exact LeO.none _)
   | (with_reducible refine LeO.ite ?_ ?_)
   | (with_reducible refine LeO.bind ?_ (fun _ => ?_))
   | exact ih0 _ _ _ _
   | exact ih1 _ _ _ _
   | exact ih2 _ _ _ _ _
   | exact ih3 _ _ _ _ _
   | exact palaverref02_Input.mono _ _ _
   | exact palaverref02_Tag.mono _ _ _
   | exact LeO.none _
   | refine LeO.ite ?_ ?_
   | refine LeO.bind ?_ (fun _ => ?_)
  ·intro y0 y1 y2 y3 y4
   unfold palaverref04_Fold.l1
   repeat' first
   | (with_reducible exact ih0 _ _ _ _)
   | (with_reducible exact ih1 _ _ _ _)
   | (with_reducible exact ih2 _ _ _ _ _)
   | (with_reducible exact ih3 _ _ _ _ _)
   | (with_reducible exact palaverref02_Input.mono _ _ _)
   | (with_reducible exact palaverref02_Tag.mono _ _ _)
   | (with_reducible exact LeO.refl _)
   | (with_reducible exact LeO.none _)
   | (with_reducible refine LeO.ite ?_ ?_)
   | (with_reducible refine LeO.bind ?_ (fun _ => ?_))
   | exact ih0 _ _ _ _
   | exact ih1 _ _ _ _
   | exact ih2 _ _ _ _ _
   | exact ih3 _ _ _ _ _
   | exact palaverref02_Input.mono _ _ _
   | exact palaverref02_Tag.mono _ _ _
   | exact LeO.none _
   | refine LeO.ite ?_ ?_
   | refine LeO.bind ?_ (fun _ => ?_)
  ·intro y0 y1 y2 y3 y4
   unfold palaverref04_Fold.l0
   repeat' first
   | (with_reducible exact ih0 _ _ _ _)
   | (with_reducible exact ih1 _ _ _ _)
   | (with_reducible exact ih2 _ _ _ _ _)
   | (with_reducible exact ih3 _ _ _ _ _)
   | (with_reducible exact palaverref02_Input.mono _ _ _)
   | (with_reducible exact palaverref02_Tag.mono _ _ _)
   | (with_reducible exact LeO.refl _)
   | (with_reducible exact LeO.none _)
   | (with_reducible refine LeO.ite ?_ ?_)
   | (with_reducible refine LeO.bind ?_ (fun _ => ?_))
   | exact ih0 _ _ _ _
   | exact ih1 _ _ _ _
   | exact ih2 _ _ _ _ _
   | exact ih3 _ _ _ _ _
   | exact palaverref02_Input.mono _ _ _
   | exact palaverref02_Tag.mono _ _ _
   | exact LeO.none _
   | refine LeO.ite ?_ ?_
   | refine LeO.bind ?_ (fun _ => ?_)
theorem palaverref04_Fold.mono : ∀ a0 a1 a2 k, LeO (palaverref04_Fold.f k a0 a1 a2) (palaverref04_Fold.f (k + 1) a0 a1 a2) := by
 intro a0 a1 a2 k
 obtain ⟨ih0, ih1, ih2, ih3⟩ := palaverref04_Fold.mono_l k
 unfold palaverref04_Fold.f
 repeat' first
  | (with_reducible exact ih0 _ _ _ _)
  | (with_reducible exact ih1 _ _ _ _)
  | (with_reducible exact ih2 _ _ _ _ _)
  | (with_reducible exact ih3 _ _ _ _ _)
  | (with_reducible exact palaverref02_Input.mono _ _ _)
  | (with_reducible exact palaverref02_Tag.mono _ _ _)
  | (with_reducible exact LeO.refl _)
  | (with_reducible exact LeO.none _)
  | (with_reducible refine LeO.ite ?_ ?_)
  | (with_reducible refine LeO.bind ?_ (fun _ => ?_))
  | exact ih0 _ _ _ _
  | exact ih1 _ _ _ _
  | exact ih2 _ _ _ _ _
  | exact ih3 _ _ _ _ _
  | exact palaverref02_Input.mono _ _ _
  | exact palaverref02_Tag.mono _ _ _
  | exact LeO.none _
  | refine LeO.ite ?_ ?_
  | refine LeO.bind ?_ (fun _ => ?_)
set_option maxHeartbeats 64000000 in
set_option maxRecDepth 100000 in
theorem palaverref04_Fold.calls (k : Nat) (a0 : ByteArray) (a1 : Int) (A2 : Option Addr) (c2 : Nat) (l2 : List ByteArray) (r1 : ByteArray) (r2 : List ByteArray) (r3 : Bool) (w : World) (hr2 : Kd.C Kd.string w A2 l2.length l2) (hc2 : l2.length ≤ c2) (h : palaverref04_Fold.f k a0 a1 l2 = some (r1, r2, r3)) :
 Calls Tryd.prog 17 #[.string a0, .int .i64 a1, .slice A2 l2.length c2] w fun e w' => ∃ v1_ : Value, e = .returned (.tuple #[.string r1, v1_, .bool r3]) ∧ Kd.R Kd.string 9 w' w.heap.size (fun _ => True) v1_ r2 ∧ Below w.heap.size w w' := by
 have HR2 := Aside0.mk hr2
 have HC2 := Aside0.mk hc2
 clear hr2 hc2
 have HB := Aside0.mk (Below.refl w.heap.size w)
 have H : (palaverref04_Fold.l0 k a0 a1 l2 1 0) = some (r1, r2, r3) := h
 clear h
 have HC4 := Aside0.mk H
 clear H
 go_enter Tryd.func17, Tryd.ntmps17
 go_upto_block 0 with (fail)
 repeat (go_quiet (fail); go_upto_block 0 with (fail))
 go_cut [9] (fun v9 wc => ∃ (kq : Nat) (x9_3 : Int), v9 = .int .i64 x9_3 ∧ Aside0 (palaverref04_Fold.j1 kq a0 a1 l2 x9_3 = some (r1, r2, r3)) ∧ Aside0 (kq ≤ k) ∧ Aside0 (Below w.heap.size w wc))
 case first =>
  have H := HC4.out
  clear HC4
  have H' := Aside0.mk H
  clear H
  go_wp2
  repeat (go_quiet (fail); try go_wp2)
  go_loopg [9, 10] k (fun kq v9 v10 w' => ∃ (x9_1 : Int) (x10_1 : Int), v9 = .int .i64 x9_1 ∧ v10 = .int .i64 x10_1 ∧ Aside0 (palaverref04_Fold.l0 kq a0 a1 l2 x9_1 x10_1 = some (r1, r2, r3)) ∧ Aside0 (kq ≤ k) ∧ Aside0 (Below w.heap.size w w'))
  case atStart => exact ⟨(1), (0), (by first | rfl | (simp; done) | (simp [*]; done) | exact congrArg Value.bool (nonempty_l _) | (refine congrArg (Value.int _) ?_; first | omega | (unfold Go.RowKit.wrap64; omega))), (by first | rfl | (simp; done) | (simp [*]; done) | exact congrArg Value.bool (nonempty_l _) | (refine congrArg (Value.int _) ?_; first | omega | (unfold Go.RowKit.wrap64; omega))), H', ⟨Nat.le_refl _⟩, ⟨by repeat (first | (with_reducible first | exact HB.out | apply below_alloc | apply pw_below_drewN | apply below_drew1) | exact HB.out)⟩⟩
  case round =>
   clear H'
   (try clear c1); (try clear c2); (try clear p2)
   obtain ⟨x9_1, x10_1, rfl, rfl, HA, HK1, HB⟩ := hrel
   cases gk with
   | zero => exact absurd HA.out (by simp [palaverref04_Fold.l0])
   | succ k1 =>
    have H := HA.out
    clear HA
    simp only [palaverref04_Fold.l0] at H
    by_cases c5 : x10_1 < (l2.length : Int)
    ·rw [if_pos c5] at H
     have c5b0 : decide (x10_1 < (l2.length : Int)) = true := decide_eq_true c5
     clear c5
     (first | rw [c5b0] | (simp only [i64_w, i32_w]; rw [c5b0]) | skip)
     by_cases c6 : x10_1 < 5
     ·rw [if_pos c6] at H
      have c6b0 : decide (x10_1 < 5) = true := decide_eq_true c6
      clear c6
      have H' := Aside0.mk H
      clear H
      go_wp2
      repeat (go_quiet (fail); try go_wp2)
      go_roundg k1
      case measure => have := HK1.out; omega
      case rel => exact ⟨(wrap64 (2 * x9_1)), (wrap64 (x10_1 + 1)), (by first | rfl | (simp; done) | (simp [*]; done) | exact congrArg Value.bool (nonempty_l _) | (refine congrArg (Value.int _) ?_; first | omega | (unfold Go.RowKit.wrap64; omega))), (by first | rfl | (simp; done) | (simp [*]; done) | exact congrArg Value.bool (nonempty_l _) | (refine congrArg (Value.int _) ?_; first | omega | (unfold Go.RowKit.wrap64; omega))), H', ⟨by have := HK1.out; omega⟩, ⟨by repeat (first | (with_reducible first | exact HB.out | apply below_alloc | apply pw_below_drewN | apply below_drew1) | exact HB.out)⟩⟩
     ·rw [if_neg c6] at H
      have c6b0 : decide (x10_1 < 5) = false := decide_eq_false c6
      clear c6
      have H' := Aside0.mk H
      clear H
      go_wp2
      repeat (go_quiet (fail); try go_wp2)
      go_meet
      case rel => exact ⟨_, (x9_1), (by first | rfl | (simp; done) | (simp [*]; done) | exact congrArg Value.bool (nonempty_l _) | (refine congrArg (Value.int _) ?_; first | omega | (unfold Go.RowKit.wrap64; omega))), H', ⟨by have := HK1.out; first | omega | exact Nat.le_refl _⟩, ⟨by repeat (first | (with_reducible first | exact HB.out | apply below_alloc | apply pw_below_drewN | apply below_drew1) | exact HB.out)⟩⟩
    ·rw [if_neg c5] at H
     have c5b0 : decide (x10_1 < (l2.length : Int)) = false := decide_eq_false c5
     clear c5
     (first | rw [c5b0] | (simp only [i64_w, i32_w]; rw [c5b0]) | skip)
     have H' := Aside0.mk H
     clear H
     go_wp2
     repeat (go_quiet (fail); try go_wp2)
     go_meet
     case rel => exact ⟨_, (x9_1), (by first | rfl | (simp; done) | (simp [*]; done) | exact congrArg Value.bool (nonempty_l _) | (refine congrArg (Value.int _) ?_; first | omega | (unfold Go.RowKit.wrap64; omega))), H', ⟨by have := HK1.out; first | omega | exact Nat.le_refl _⟩, ⟨by repeat (first | (with_reducible first | exact HB.out | apply below_alloc | apply pw_below_drewN | apply below_drew1) | exact HB.out)⟩⟩
 case rest =>
  clear HC4
  (try clear c1); (try clear c2); (try clear p2); (try clear c5); (try clear c5b0); (try clear c6); (try clear c6b0); (try clear p6); (try clear p2)
  obtain ⟨kq, x9_3, rfl, HA, HJ3, HB⟩ := hcut
  cases kq with
  | zero => exact absurd HA.out (by simp [palaverref04_Fold.j1])
  | succ kj3 =>
   have H := HA.out
   clear HA
   simp only [palaverref04_Fold.j1] at H
   have HC7 := Aside0.mk H
   clear H
   go_upto_region 6 with (fail)
   repeat (go_quiet (fail); go_upto_region 6 with (fail))
   go_cut [38] (fun v38 wc => ∃ (kq : Nat) (x38_6 : Bool), v38 = .bool x38_6 ∧ Aside0 (palaverref04_Fold.j2 kq a0 a1 l2 x38_6 = some (r1, r2, r3)) ∧ Aside0 (kq ≤ kj3) ∧ Aside0 (Below w.heap.size w wc))
   case first =>
    have H := HC7.out
    clear HC7
    by_cases c8 : (l2.length : Int) > 4
    ·rw [if_pos c8] at H
     have c8b0 : decide (4 < (l2.length : Int)) = true := decide_eq_true c8
     have c8b1 : decide (4 < l2.length) = true := decide_eq_true (by omega)
     clear c8
     (first | rw [c8b0] | (simp only [i64_w, i32_w]; rw [c8b0]) | skip)
     have H' := Aside0.mk H
     clear H
     go_wp2
     repeat (go_quiet (fail); try go_wp2)
     go_meet
     case rel => exact ⟨_, (true), (by first | rfl | (simp; done) | (simp [*]; done) | exact congrArg Value.bool (nonempty_l _) | (refine congrArg (Value.int _) ?_; first | omega | (unfold Go.RowKit.wrap64; omega))), H', ⟨by have := HJ3.out; first | omega | exact Nat.le_refl _⟩, ⟨by repeat (first | (with_reducible first | exact HB.out | apply below_alloc | apply pw_below_drewN | apply below_drew1) | exact HB.out)⟩⟩
    ·rw [if_neg c8] at H
     have c8b0 : decide (4 < (l2.length : Int)) = false := decide_eq_false c8
     have c8b1 : decide (4 < l2.length) = false := decide_eq_false (by omega)
     clear c8
     (first | rw [c8b0] | (simp only [i64_w, i32_w]; rw [c8b0]) | skip)
     by_cases c9 : a1 < 0
     ·rw [if_pos c9] at H
      have c9b0 : decide (a1 < 0) = true := decide_eq_true c9
      clear c9
      have H' := Aside0.mk H
      clear H
      go_wp2
      repeat (go_quiet (fail); try go_wp2)
      go_meet
      case rel => exact ⟨_, (true), (by first | rfl | (simp; done) | (simp [*]; done) | exact congrArg Value.bool (nonempty_l _) | (refine congrArg (Value.int _) ?_; first | omega | (unfold Go.RowKit.wrap64; omega))), H', ⟨by have := HJ3.out; first | omega | exact Nat.le_refl _⟩, ⟨by repeat (first | (with_reducible first | exact HB.out | apply below_alloc | apply pw_below_drewN | apply below_drew1) | exact HB.out)⟩⟩
     ·rw [if_neg c9] at H
      have c9b0 : decide (a1 < 0) = false := decide_eq_false c9
      clear c9
      have H' := Aside0.mk H
      clear H
      go_wp2
      repeat (go_quiet (fail); try go_wp2)
      go_meet
      case rel => exact ⟨_, (decide (a1 ≥ x9_3)), (by first | rfl | (simp; done) | (simp [*]; done) | exact congrArg Value.bool (nonempty_l _) | (refine congrArg (Value.int _) ?_; first | omega | (unfold Go.RowKit.wrap64; omega))), H', ⟨by have := HJ3.out; first | omega | exact Nat.le_refl _⟩, ⟨by repeat (first | (with_reducible first | exact HB.out | apply below_alloc | apply pw_below_drewN | apply below_drew1) | exact HB.out)⟩⟩
   case rest =>
    clear HC7
    (try clear c1); (try clear c2); (try clear p2); (try clear c5); (try clear c5b0); (try clear c6); (try clear c6b0); (try clear p6); (try clear c8); (try clear c8b0); (try clear c8b1); (try clear c9); (try clear c9b0); (try clear p2); (try clear p6)
    obtain ⟨kq, x38_6, rfl, HA, HJ6, HB⟩ := hcut
    cases kq with
    | zero => exact absurd HA.out (by simp [palaverref04_Fold.j2])
    | succ kj6 =>
     have H := HA.out
     clear HA
     simp only [palaverref04_Fold.j2] at H
     by_cases c10 : x38_6 = true
     ·subst c10
      have H1 : (some ((⟨#[]⟩ : ByteArray), ([] : List ByteArray), false)) = some (r1, r2, r3) := by rw [if_pos rfl] at H; exact H
      clear H
      have H := H1
      clear H1
      simp only [Option.some.injEq, Prod.mk.injEq] at H
      obtain ⟨rfl, rfl, rfl⟩ := H
      go_wp2
      repeat (go_quiet (fail); try go_wp2)
      go_ret3
      exact ⟨_, by first | rfl | (simp [errW_none, errW_some] <;> rfl) | (simp [*, errW_none, errW_some] <;> rfl), by first | exact Kd.R_nil _ _ _ _ _ | exact Kd.N_nil _ _ _ _ _ | exact Kd.V_nil _ _ _ _ _ | exact Kd.Q_nil _ _ _ _ _ | exact Kd.S_nil _ _ _ _ _, by repeat (first | (with_reducible first | exact HB.out | apply below_alloc | apply pw_below_drewN | apply below_drew1) | exact HB.out)⟩
     ·replace c10 := Bool.eq_false_iff.mpr c10
      subst c10
      have H1 : (palaverref04_Fold.l1 kj6 a0 a1 l2 ([] : List ByteArray) 0) = some (r1, r2, r3) := by rw [if_neg (show ¬ (false = true) by decide)] at H; exact H
      clear H
      have H := H1
      clear H1
      have H' := Aside0.mk H
      clear H
      go_wp2
      repeat (go_quiet (fail); try go_wp2)
      go_loopg [0, 1, 11, 12] kj6 (fun kq v0 v1 v11 v12 w' => ∃ (x0_3 : ByteArray) (x1_3 : Int) (x11_3 : List ByteArray) (x12_3 : Int), v0 = .string x0_3 ∧ v1 = .int .i64 x1_3 ∧ v12 = .int .i64 x12_3 ∧ Aside0 (palaverref04_Fold.l1 kq x0_3 x1_3 l2 x11_3 x12_3 = some (r1, r2, r3)) ∧ Aside0 (kq ≤ kj6) ∧ Aside0 (Kd.R Kd.string 9 w' w.heap.size (fun _ => True) v11 x11_3) ∧ Aside0 (Below w.heap.size w w'))
      case atStart => exact ⟨(a0), (a1), (([] : List ByteArray)), (0), (by first | rfl | (simp; done) | (simp [*]; done) | exact congrArg Value.bool (nonempty_l _) | (refine congrArg (Value.int _) ?_; first | omega | (unfold Go.RowKit.wrap64; omega))), (by first | rfl | (simp; done) | (simp [*]; done) | exact congrArg Value.bool (nonempty_l _) | (refine congrArg (Value.int _) ?_; first | omega | (unfold Go.RowKit.wrap64; omega))), (by first | rfl | (simp; done) | (simp [*]; done) | exact congrArg Value.bool (nonempty_l _) | (refine congrArg (Value.int _) ?_; first | omega | (unfold Go.RowKit.wrap64; omega))), H', ⟨Nat.le_refl _⟩, ⟨by first | exact Kd.R_nil _ _ _ _ _ | exact Kd.N_nil _ _ _ _ _ | exact Kd.V_nil _ _ _ _ _ | exact Kd.Q_nil _ _ _ _ _ | exact Kd.S_nil _ _ _ _ _⟩, ⟨by repeat (first | (with_reducible first | exact HB.out | apply below_alloc | apply pw_below_drewN | apply below_drew1) | exact HB.out)⟩⟩
      case round =>
       clear H'
       (try clear c1); (try clear c2); (try clear p2); (try clear c5); (try clear c5b0); (try clear c6); (try clear c6b0); (try clear p6); (try clear c8); (try clear c8b0); (try clear c8b1); (try clear c9); (try clear c9b0); (try clear c10); (try clear p2); (try clear p6)
       obtain ⟨x0_3, x1_3, x11_3, x12_3, rfl, rfl, rfl, HA, HK3, HO_11, HB⟩ := hrel
       cases gk with
       | zero => exact absurd HA.out (by simp [palaverref04_Fold.l1])
       | succ k3 =>
        have H := HA.out
        clear HA
        simp only [palaverref04_Fold.l1] at H
        by_cases c11 : x12_3 < (l2.length : Int)
        ·rw [if_pos c11] at H
         have c11b0 : decide (x12_3 < (l2.length : Int)) = true := decide_eq_true c11
         clear c11
         by_cases c12 : 0 ≤ x12_3
         rotate_left
         ·rw [if_neg c12] at H
          exact absurd H (by simp)
         rw [if_pos c12] at H
         have c12b0 : decide (0 ≤ x12_3) = true := decide_eq_true c12
         clear c12
         by_cases c13 : (Int.tmod x1_3 2) = 1
         ·rw [if_pos c13] at H
          have c13b0 : ((Int.tmod x1_3 2) == 1) = true := beq_iff_eq.mpr c13
          have c13b1 : ((Int.tmod x1_3 2) != 1) = false := bne_eq_false_iff_eq.mpr c13
          clear c13
          obtain ⟨y328, hy328⟩ : ∃ y_ : List ByteArray, y_ = (([rdOf ByteArray.empty l2 x12_3, x0_3] : List ByteArray)) := ⟨_, rfl⟩
          replace H : ((palaverref02_Input.f k3 4 y328).bind fun t331 => (if x11_3.length < 8796093022208 then ((palaverref02_Tag.f k3 4 (([rdOf ByteArray.empty l2 x12_3, x0_3] : List ByteArray))).bind fun t338 => (palaverref04_Fold.l1 k3 t338 (wrap64 (Int.tdiv x1_3 2)) l2 (x11_3 ++ [t331]) (wrap64 (x12_3 + 1)))) else (none))) = some (r1, r2, r3) := by first | (rw [hy328]; with_reducible exact H) | (have H2_ := (Option.bind_some _ _).symm.trans H; rw [hy328]; with_reducible exact H2_) | (have H2_ := (Option.bind_some _ _).symm.trans H; with_reducible exact H2_) | with_reducible exact H | (rw [hy328]; exact H) | exact H
          have Ny328 := Aside0.mk hy328
          clear hy328
          replace H := Option.bind_eq_some_iff.mp H
          obtain ⟨t331, A140, H⟩ := H
          replace H : (if x11_3.length < 8796093022208 then ((palaverref02_Tag.f k3 4 (([rdOf ByteArray.empty l2 x12_3, x0_3] : List ByteArray))).bind fun t338 => (palaverref04_Fold.l1 k3 t338 (wrap64 (Int.tdiv x1_3 2)) l2 (x11_3 ++ [t331]) (wrap64 (x12_3 + 1)))) else (none)) = some (r1, r2, r3) := H
          have A14 := Aside0.mk A140
          clear A140
          by_cases c15 : x11_3.length < 8796093022208
          rotate_left
          ·rw [if_neg c15] at H
           exact absurd H (by simp)
          rw [if_pos c15] at H
          have LMc15 := Aside0.mk c15
          clear c15
          obtain ⟨y332, hy332⟩ : ∃ y_ : List ByteArray, y_ = (x11_3 ++ [t331]) := ⟨_, rfl⟩
          replace H : ((palaverref02_Tag.f k3 4 (([rdOf ByteArray.empty l2 x12_3, x0_3] : List ByteArray))).bind fun t338 => (palaverref04_Fold.l1 k3 t338 (wrap64 (Int.tdiv x1_3 2)) l2 y332 (wrap64 (x12_3 + 1)))) = some (r1, r2, r3) := by first | (rw [hy332]; with_reducible exact H) | (have H2_ := (Option.bind_some _ _).symm.trans H; rw [hy332]; with_reducible exact H2_) | (have H2_ := (Option.bind_some _ _).symm.trans H; with_reducible exact H2_) | with_reducible exact H | (rw [hy332]; exact H) | exact H
          have Ny332 := Aside0.mk hy332
          clear hy332
          obtain ⟨y335, hy335⟩ : ∃ y_ : List ByteArray, y_ = (([rdOf ByteArray.empty l2 x12_3, x0_3] : List ByteArray)) := ⟨_, rfl⟩
          replace H : ((palaverref02_Tag.f k3 4 y335).bind fun t338 => (palaverref04_Fold.l1 k3 t338 (wrap64 (Int.tdiv x1_3 2)) l2 y332 (wrap64 (x12_3 + 1)))) = some (r1, r2, r3) := by first | (rw [hy335]; with_reducible exact H) | (have H2_ := (Option.bind_some _ _).symm.trans H; rw [hy335]; with_reducible exact H2_) | (have H2_ := (Option.bind_some _ _).symm.trans H; with_reducible exact H2_) | with_reducible exact H | (rw [hy335]; exact H) | exact H
          have Ny335 := Aside0.mk hy335
          clear hy335
          replace H := Option.bind_eq_some_iff.mp H
          obtain ⟨t338, A160, H⟩ := H
          replace H : (palaverref04_Fold.l1 k3 t338 (wrap64 (Int.tdiv x1_3 2)) l2 y332 (wrap64 (x12_3 + 1))) = some (r1, r2, r3) := H
          have A16 := Aside0.mk A160
          clear A160
          have H' := Aside0.mk H
          clear H
          have p326 : 0 ≤ (x12_3 : Int) := of_decide_eq_true (by first | (with_reducible assumption) | assumption)
          have q326 : x12_3 < (l2.length : Int) := of_decide_eq_true (by first | (with_reducible assumption) | assumption)
          obtain ⟨ad326, e326, hx326_0⟩ := Kd.at_string HR2.out x12_3 p326 q326
          cases e326
          replace hx326_0 := (HB.out.cell (World.block_lt_of_cell? w _ hx326_0)).trans hx326_0
          replace p326 := eq_true p326
          replace q326 := eq_true q326
          have p327 : 0 ≤ (x12_3 : Int) := of_decide_eq_true (by first | (with_reducible assumption) | assumption)
          have q327 : x12_3 < (l2.length : Int) := of_decide_eq_true (by first | (with_reducible assumption) | assumption)
          obtain ⟨ad327, e327, hx327_0⟩ := Kd.at_string HR2.out x12_3 p327 q327
          obtain rfl : ad326 = ad327 := (by injection e327)
          replace hx327_0 := (HB.out.cell (World.block_lt_of_cell? w _ hx327_0)).trans hx327_0
          replace p327 := eq_true p327
          replace q327 := eq_true q327
          go_wp2_with (first | ((with_reducible refine gate_dst (N := 61) rfl ?_); refine Kd.R_lit Kd.string _ 9 ?hg (N := 61) ?hd (xs := ([rdOf ByteArray.empty l2 x12_3, x0_3] : List ByteArray)) (inner := [.string (rdOf ByteArray.empty l2 x12_3), .string x0_3]) (ok := fun _ => True) (okp := fun _ => True) ?hr ?hp (fun _ hk => hk) trivial (Below.refl _ _) (Nat.le_refl _) (by simp) ?_; (case hd => rfl); (case hg => rfl); (case hr => first | (go_simp; done) | (go_simp; rfl)); (case hp => exact (Reps.one (show Kd.M Kd.string _ _ _ (rdOf ByteArray.empty l2 x12_3) [.string (rdOf ByteArray.empty l2 x12_3)] from rfl) (Reps.one (show Kd.M Kd.string _ _ _ x0_3 [.string x0_3] from rfl) (Reps.none _ _)))); intro v329 w17 ho18 hb hg_ hnew_; clear hg_ hnew_; (first | rw [← Ny328.out] at ho18 | (simp only [Int.reduceToNat] at ho18; rw [← Ny328.out] at ho18)); have n0_ := Aside0.mk (Kd.R_elder' (by (with_reducible repeat (first | apply Kd.R_alloc | apply Kd.R_drewN | apply Kd.R_drew)); exact HO_11.out) (Kd.R_base ho18) hb); have n1_ := Aside0.mk (Kd.R_lower (Kd.R_new' ho18 (Kd.R_lt (by (with_reducible repeat (first | apply Kd.R_alloc | apply Kd.R_drewN | apply Kd.R_drew)); exact HO_11.out))) (below_size (by repeat (first | (with_reducible first | exact HB.out | apply below_alloc | apply pw_below_drewN | apply below_drew1) | exact HB.out)))); have n2_ := Aside0.mk (below_step (by repeat (first | (with_reducible first | exact HB.out | apply below_alloc | apply pw_below_drewN | apply below_drew1) | exact HB.out)) hb); clear HO_11; clear HB; have HO_11 := n0_; have HO330 := n1_; have HB := n2_; clear n0_ n1_ n2_; clear hb ho18; obtain ⟨Ao19, co19, eo19⟩ := Kd.R_slice HO330.out; subst eo19) | (go_at_call 24; (with_reducible refine (palaverref02_Input.calls k3 4 _ _ y328 t331 _ ?side1 ?side2 A14.out).mono ?_); (case side1 => repeat (first | exact (Kd.R_reads' HO330.out).2.2 | (with_reducible refine Kd.C_alloc ?_ _) | (with_reducible refine Kd.C_drewN ?_ _) | (with_reducible refine Kd.C_drew ?_))); (case side2 => exact (Kd.R_reads' HO330.out).2.1); rintro e w20 ⟨rfl, hb⟩; have n0_ := Aside0.mk (Kd.R_below (by (with_reducible repeat (first | apply Kd.R_alloc | apply Kd.R_drewN | apply Kd.R_drew)); exact HO_11.out) hb); have n1_ := Aside0.mk (Kd.R_below (by (with_reducible repeat (first | apply Kd.R_alloc | apply Kd.R_drewN | apply Kd.R_drew)); exact HO330.out) hb); have n2_ := Aside0.mk (below_step (by repeat (first | (with_reducible first | exact HB.out | apply below_alloc | apply pw_below_drewN | apply below_drew1) | exact HB.out)) hb); clear HO_11; clear HO330; clear HB; have HO_11 := n0_; have HO330 := n1_; have HB := n2_; clear n0_ n1_ n2_; (try clear hb); (try clear hb2); (try clear hk); (try clear hi)) | ((with_reducible refine gate_builtin (b := .append) (xs := #[.tmp 58, .tmp 63]) rfl ?_); at_builtin; refine Kd.R_append Kd.string (w0 := w) w.heap.size rfl (.tmp 58) (.tmp 63) 22 9 (.string ⟨#[]⟩) 16 rfl Tryd.underlying22 info9 rfl (by decide) (by omega) u11 x11_3 t331 [.string t331] (fun k_ => some k_ ≠ (.slice Ao19 y328.length co19 : Value).ownBlock) (fun _ => False) rfl rfl ?aP (fun _ hk => hk.elim) ?aF ?aO ?aB ?aS ?aL ?_; (case aP => exact rfl); (case aB => exact (by repeat (first | (with_reducible first | exact HB.out | apply below_alloc | apply pw_below_drewN | apply below_drew1) | exact HB.out))); (case aF => exact (fun k_ hk => Kd.fresh' (Kd.R_lt (by (with_reducible repeat (first | apply Kd.R_alloc | apply Kd.R_drewN | apply Kd.R_drew)); exact HO330.out)) k_ hk)); (case aO => exact (by (with_reducible repeat (first | apply Kd.R_alloc | apply Kd.R_drewN | apply Kd.R_drew)); exact Kd.R_mono HO_11.out (fun _ hk => hk.2))); (case aS => exact (below_size (by repeat (first | (with_reducible first | exact HB.out | apply below_alloc | apply pw_below_drewN | apply below_drew1) | exact HB.out)))); (case aL => have := LMc15.out; omega); intro v333 w21 ho hb hg hat; rw [← Ny332.out] at ho; have n0_ := Aside0.mk (Kd.R_after (ok := (fun _ => True)) (by (with_reducible repeat (first | apply Kd.R_alloc | apply Kd.R_drewN | apply Kd.R_drew)); exact HO330.out) hg hat); have n1_ := Aside0.mk (hb); have n2_ := Aside0.mk (ho); clear HO330; clear HB; clear HO_11; have HO330 := n0_; have HB := n1_; have HO334 := n2_; clear n0_ n1_ n2_; clear ho hb hg hat) | ((with_reducible refine gate_dst (N := 67) rfl ?_); refine Kd.R_lit Kd.string _ 9 ?hg (N := 67) ?hd (xs := ([rdOf ByteArray.empty l2 x12_3, x0_3] : List ByteArray)) (inner := [.string (rdOf ByteArray.empty l2 x12_3), .string x0_3]) (ok := fun _ => True) (okp := fun _ => True) ?hr ?hp (fun _ hk => hk) trivial (Below.refl _ _) (Nat.le_refl _) (by simp) ?_; (case hd => rfl); (case hg => rfl); (case hr => first | (go_simp; done) | (go_simp; rfl)); (case hp => exact (Reps.one (show Kd.M Kd.string _ _ _ (rdOf ByteArray.empty l2 x12_3) [.string (rdOf ByteArray.empty l2 x12_3)] from rfl) (Reps.one (show Kd.M Kd.string _ _ _ x0_3 [.string x0_3] from rfl) (Reps.none _ _)))); intro v336 w22 ho23 hb hg_ hnew_; clear hg_ hnew_; (first | rw [← Ny335.out] at ho23 | (simp only [Int.reduceToNat] at ho23; rw [← Ny335.out] at ho23)); have n0_ := Aside0.mk (Kd.R_elder' (by (with_reducible repeat (first | apply Kd.R_alloc | apply Kd.R_drewN | apply Kd.R_drew)); exact HO330.out) (Kd.R_base ho23) hb); have n1_ := Aside0.mk (Kd.R_elder' (by (with_reducible repeat (first | apply Kd.R_alloc | apply Kd.R_drewN | apply Kd.R_drew)); exact HO334.out) (Kd.R_base ho23) hb); have n2_ := Aside0.mk (Kd.R_lower (Kd.R_new' (Kd.R_new' ho23 (Kd.R_lt (by (with_reducible repeat (first | apply Kd.R_alloc | apply Kd.R_drewN | apply Kd.R_drew)); exact HO330.out))) (Kd.R_lt (by (with_reducible repeat (first | apply Kd.R_alloc | apply Kd.R_drewN | apply Kd.R_drew)); exact HO334.out))) (below_size (by repeat (first | (with_reducible first | exact HB.out | apply below_alloc | apply pw_below_drewN | apply below_drew1) | exact HB.out)))); have n3_ := Aside0.mk (below_step (by repeat (first | (with_reducible first | exact HB.out | apply below_alloc | apply pw_below_drewN | apply below_drew1) | exact HB.out)) hb); clear HO330; clear HO334; clear HB; have HO330 := n0_; have HO334 := n1_; have HO337 := n2_; have HB := n3_; clear n0_ n1_ n2_ n3_; clear hb ho23; obtain ⟨Ao24, co24, eo24⟩ := Kd.R_slice HO337.out; subst eo24) | (go_at_call 20; (with_reducible refine (palaverref02_Tag.calls k3 4 _ _ y335 t338 _ ?side1 ?side2 A16.out).mono ?_); (case side1 => repeat (first | exact (Kd.R_reads' HO337.out).2.2 | (with_reducible refine Kd.C_alloc ?_ _) | (with_reducible refine Kd.C_drewN ?_ _) | (with_reducible refine Kd.C_drew ?_))); (case side2 => exact (Kd.R_reads' HO337.out).2.1); rintro e w25 ⟨rfl, hb⟩; have n0_ := Aside0.mk (Kd.R_below (by (with_reducible repeat (first | apply Kd.R_alloc | apply Kd.R_drewN | apply Kd.R_drew)); exact HO330.out) hb); have n1_ := Aside0.mk (Kd.R_below (by (with_reducible repeat (first | apply Kd.R_alloc | apply Kd.R_drewN | apply Kd.R_drew)); exact HO334.out) hb); have n2_ := Aside0.mk (Kd.R_below (by (with_reducible repeat (first | apply Kd.R_alloc | apply Kd.R_drewN | apply Kd.R_drew)); exact HO337.out) hb); have n3_ := Aside0.mk (below_step (by repeat (first | (with_reducible first | exact HB.out | apply below_alloc | apply pw_below_drewN | apply below_drew1) | exact HB.out)) hb); clear HO330; clear HO334; clear HO337; clear HB; have HO330 := n0_; have HO334 := n1_; have HO337 := n2_; have HB := n3_; clear n0_ n1_ n2_ n3_; (try clear hb); (try clear hb2); (try clear hk); (try clear hi)))
          repeat (go_quiet (first | ((with_reducible refine gate_dst (N := 61) rfl ?_); refine Kd.R_lit Kd.string _ 9 ?hg (N := 61) ?hd (xs := ([rdOf ByteArray.empty l2 x12_3, x0_3] : List ByteArray)) (inner := [.string (rdOf ByteArray.empty l2 x12_3), .string x0_3]) (ok := fun _ => True) (okp := fun _ => True) ?hr ?hp (fun _ hk => hk) trivial (Below.refl _ _) (Nat.le_refl _) (by simp) ?_; (case hd => rfl); (case hg => rfl); (case hr => first | (go_simp; done) | (go_simp; rfl)); (case hp => exact (Reps.one (show Kd.M Kd.string _ _ _ (rdOf ByteArray.empty l2 x12_3) [.string (rdOf ByteArray.empty l2 x12_3)] from rfl) (Reps.one (show Kd.M Kd.string _ _ _ x0_3 [.string x0_3] from rfl) (Reps.none _ _)))); intro v329 w17 ho18 hb hg_ hnew_; clear hg_ hnew_; (first | rw [← Ny328.out] at ho18 | (simp only [Int.reduceToNat] at ho18; rw [← Ny328.out] at ho18)); have n0_ := Aside0.mk (Kd.R_elder' (by (with_reducible repeat (first | apply Kd.R_alloc | apply Kd.R_drewN | apply Kd.R_drew)); exact HO_11.out) (Kd.R_base ho18) hb); have n1_ := Aside0.mk (Kd.R_lower (Kd.R_new' ho18 (Kd.R_lt (by (with_reducible repeat (first | apply Kd.R_alloc | apply Kd.R_drewN | apply Kd.R_drew)); exact HO_11.out))) (below_size (by repeat (first | (with_reducible first | exact HB.out | apply below_alloc | apply pw_below_drewN | apply below_drew1) | exact HB.out)))); have n2_ := Aside0.mk (below_step (by repeat (first | (with_reducible first | exact HB.out | apply below_alloc | apply pw_below_drewN | apply below_drew1) | exact HB.out)) hb); clear HO_11; clear HB; have HO_11 := n0_; have HO330 := n1_; have HB := n2_; clear n0_ n1_ n2_; clear hb ho18; obtain ⟨Ao19, co19, eo19⟩ := Kd.R_slice HO330.out; subst eo19) | (go_at_call 24; (with_reducible refine (palaverref02_Input.calls k3 4 _ _ y328 t331 _ ?side1 ?side2 A14.out).mono ?_); (case side1 => repeat (first | exact (Kd.R_reads' HO330.out).2.2 | (with_reducible refine Kd.C_alloc ?_ _) | (with_reducible refine Kd.C_drewN ?_ _) | (with_reducible refine Kd.C_drew ?_))); (case side2 => exact (Kd.R_reads' HO330.out).2.1); rintro e w20 ⟨rfl, hb⟩; have n0_ := Aside0.mk (Kd.R_below (by (with_reducible repeat (first | apply Kd.R_alloc | apply Kd.R_drewN | apply Kd.R_drew)); exact HO_11.out) hb); have n1_ := Aside0.mk (Kd.R_below (by (with_reducible repeat (first | apply Kd.R_alloc | apply Kd.R_drewN | apply Kd.R_drew)); exact HO330.out) hb); have n2_ := Aside0.mk (below_step (by repeat (first | (with_reducible first | exact HB.out | apply below_alloc | apply pw_below_drewN | apply below_drew1) | exact HB.out)) hb); clear HO_11; clear HO330; clear HB; have HO_11 := n0_; have HO330 := n1_; have HB := n2_; clear n0_ n1_ n2_; (try clear hb); (try clear hb2); (try clear hk); (try clear hi)) | ((with_reducible refine gate_builtin (b := .append) (xs := #[.tmp 58, .tmp 63]) rfl ?_); at_builtin; refine Kd.R_append Kd.string (w0 := w) w.heap.size rfl (.tmp 58) (.tmp 63) 22 9 (.string ⟨#[]⟩) 16 rfl Tryd.underlying22 info9 rfl (by decide) (by omega) u11 x11_3 t331 [.string t331] (fun k_ => some k_ ≠ (.slice Ao19 y328.length co19 : Value).ownBlock) (fun _ => False) rfl rfl ?aP (fun _ hk => hk.elim) ?aF ?aO ?aB ?aS ?aL ?_; (case aP => exact rfl); (case aB => exact (by repeat (first | (with_reducible first | exact HB.out | apply below_alloc | apply pw_below_drewN | apply below_drew1) | exact HB.out))); (case aF => exact (fun k_ hk => Kd.fresh' (Kd.R_lt (by (with_reducible repeat (first | apply Kd.R_alloc | apply Kd.R_drewN | apply Kd.R_drew)); exact HO330.out)) k_ hk)); (case aO => exact (by (with_reducible repeat (first | apply Kd.R_alloc | apply Kd.R_drewN | apply Kd.R_drew)); exact Kd.R_mono HO_11.out (fun _ hk => hk.2))); (case aS => exact (below_size (by repeat (first | (with_reducible first | exact HB.out | apply below_alloc | apply pw_below_drewN | apply below_drew1) | exact HB.out)))); (case aL => have := LMc15.out; omega); intro v333 w21 ho hb hg hat; rw [← Ny332.out] at ho; have n0_ := Aside0.mk (Kd.R_after (ok := (fun _ => True)) (by (with_reducible repeat (first | apply Kd.R_alloc | apply Kd.R_drewN | apply Kd.R_drew)); exact HO330.out) hg hat); have n1_ := Aside0.mk (hb); have n2_ := Aside0.mk (ho); clear HO330; clear HB; clear HO_11; have HO330 := n0_; have HB := n1_; have HO334 := n2_; clear n0_ n1_ n2_; clear ho hb hg hat) | ((with_reducible refine gate_dst (N := 67) rfl ?_); refine Kd.R_lit Kd.string _ 9 ?hg (N := 67) ?hd (xs := ([rdOf ByteArray.empty l2 x12_3, x0_3] : List ByteArray)) (inner := [.string (rdOf ByteArray.empty l2 x12_3), .string x0_3]) (ok := fun _ => True) (okp := fun _ => True) ?hr ?hp (fun _ hk => hk) trivial (Below.refl _ _) (Nat.le_refl _) (by simp) ?_; (case hd => rfl); (case hg => rfl); (case hr => first | (go_simp; done) | (go_simp; rfl)); (case hp => exact (Reps.one (show Kd.M Kd.string _ _ _ (rdOf ByteArray.empty l2 x12_3) [.string (rdOf ByteArray.empty l2 x12_3)] from rfl) (Reps.one (show Kd.M Kd.string _ _ _ x0_3 [.string x0_3] from rfl) (Reps.none _ _)))); intro v336 w22 ho23 hb hg_ hnew_; clear hg_ hnew_; (first | rw [← Ny335.out] at ho23 | (simp only [Int.reduceToNat] at ho23; rw [← Ny335.out] at ho23)); have n0_ := Aside0.mk (Kd.R_elder' (by (with_reducible repeat (first | apply Kd.R_alloc | apply Kd.R_drewN | apply Kd.R_drew)); exact HO330.out) (Kd.R_base ho23) hb); have n1_ := Aside0.mk (Kd.R_elder' (by (with_reducible repeat (first | apply Kd.R_alloc | apply Kd.R_drewN | apply Kd.R_drew)); exact HO334.out) (Kd.R_base ho23) hb); have n2_ := Aside0.mk (Kd.R_lower (Kd.R_new' (Kd.R_new' ho23 (Kd.R_lt (by (with_reducible repeat (first | apply Kd.R_alloc | apply Kd.R_drewN | apply Kd.R_drew)); exact HO330.out))) (Kd.R_lt (by (with_reducible repeat (first | apply Kd.R_alloc | apply Kd.R_drewN | apply Kd.R_drew)); exact HO334.out))) (below_size (by repeat (first | (with_reducible first | exact HB.out | apply below_alloc | apply pw_below_drewN | apply below_drew1) | exact HB.out)))); have n3_ := Aside0.mk (below_step (by repeat (first | (with_reducible first | exact HB.out | apply below_alloc | apply pw_below_drewN | apply below_drew1) | exact HB.out)) hb); clear HO330; clear HO334; clear HB; have HO330 := n0_; have HO334 := n1_; have HO337 := n2_; have HB := n3_; clear n0_ n1_ n2_ n3_; clear hb ho23; obtain ⟨Ao24, co24, eo24⟩ := Kd.R_slice HO337.out; subst eo24) | (go_at_call 20; (with_reducible refine (palaverref02_Tag.calls k3 4 _ _ y335 t338 _ ?side1 ?side2 A16.out).mono ?_); (case side1 => repeat (first | exact (Kd.R_reads' HO337.out).2.2 | (with_reducible refine Kd.C_alloc ?_ _) | (with_reducible refine Kd.C_drewN ?_ _) | (with_reducible refine Kd.C_drew ?_))); (case side2 => exact (Kd.R_reads' HO337.out).2.1); rintro e w25 ⟨rfl, hb⟩; have n0_ := Aside0.mk (Kd.R_below (by (with_reducible repeat (first | apply Kd.R_alloc | apply Kd.R_drewN | apply Kd.R_drew)); exact HO330.out) hb); have n1_ := Aside0.mk (Kd.R_below (by (with_reducible repeat (first | apply Kd.R_alloc | apply Kd.R_drewN | apply Kd.R_drew)); exact HO334.out) hb); have n2_ := Aside0.mk (Kd.R_below (by (with_reducible repeat (first | apply Kd.R_alloc | apply Kd.R_drewN | apply Kd.R_drew)); exact HO337.out) hb); have n3_ := Aside0.mk (below_step (by repeat (first | (with_reducible first | exact HB.out | apply below_alloc | apply pw_below_drewN | apply below_drew1) | exact HB.out)) hb); clear HO330; clear HO334; clear HO337; clear HB; have HO330 := n0_; have HO334 := n1_; have HO337 := n2_; have HB := n3_; clear n0_ n1_ n2_ n3_; (try clear hb); (try clear hb2); (try clear hk); (try clear hi))); try go_wp2_with (first | ((with_reducible refine gate_dst (N := 61) rfl ?_); refine Kd.R_lit Kd.string _ 9 ?hg (N := 61) ?hd (xs := ([rdOf ByteArray.empty l2 x12_3, x0_3] : List ByteArray)) (inner := [.string (rdOf ByteArray.empty l2 x12_3), .string x0_3]) (ok := fun _ => True) (okp := fun _ => True) ?hr ?hp (fun _ hk => hk) trivial (Below.refl _ _) (Nat.le_refl _) (by simp) ?_; (case hd => rfl); (case hg => rfl); (case hr => first | (go_simp; done) | (go_simp; rfl)); (case hp => exact (Reps.one (show Kd.M Kd.string _ _ _ (rdOf ByteArray.empty l2 x12_3) [.string (rdOf ByteArray.empty l2 x12_3)] from rfl) (Reps.one (show Kd.M Kd.string _ _ _ x0_3 [.string x0_3] from rfl) (Reps.none _ _)))); intro v329 w17 ho18 hb hg_ hnew_; clear hg_ hnew_; (first | rw [← Ny328.out] at ho18 | (simp only [Int.reduceToNat] at ho18; rw [← Ny328.out] at ho18)); have n0_ := Aside0.mk (Kd.R_elder' (by (with_reducible repeat (first | apply Kd.R_alloc | apply Kd.R_drewN | apply Kd.R_drew)); exact HO_11.out) (Kd.R_base ho18) hb); have n1_ := Aside0.mk (Kd.R_lower (Kd.R_new' ho18 (Kd.R_lt (by (with_reducible repeat (first | apply Kd.R_alloc | apply Kd.R_drewN | apply Kd.R_drew)); exact HO_11.out))) (below_size (by repeat (first | (with_reducible first | exact HB.out | apply below_alloc | apply pw_below_drewN | apply below_drew1) | exact HB.out)))); have n2_ := Aside0.mk (below_step (by repeat (first | (with_reducible first | exact HB.out | apply below_alloc | apply pw_below_drewN | apply below_drew1) | exact HB.out)) hb); clear HO_11; clear HB; have HO_11 := n0_; have HO330 := n1_; have HB := n2_; clear n0_ n1_ n2_; clear hb ho18; obtain ⟨Ao19, co19, eo19⟩ := Kd.R_slice HO330.out; subst eo19) | (go_at_call 24; (with_reducible refine (palaverref02_Input.calls k3 4 _ _ y328 t331 _ ?side1 ?side2 A14.out).mono ?_); (case side1 => repeat (first | exact (Kd.R_reads' HO330.out).2.2 | (with_reducible refine Kd.C_alloc ?_ _) | (with_reducible refine Kd.C_drewN ?_ _) | (with_reducible refine Kd.C_drew ?_))); (case side2 => exact (Kd.R_reads' HO330.out).2.1); rintro e w20 ⟨rfl, hb⟩; have n0_ := Aside0.mk (Kd.R_below (by (with_reducible repeat (first | apply Kd.R_alloc | apply Kd.R_drewN | apply Kd.R_drew)); exact HO_11.out) hb); have n1_ := Aside0.mk (Kd.R_below (by (with_reducible repeat (first | apply Kd.R_alloc | apply Kd.R_drewN | apply Kd.R_drew)); exact HO330.out) hb); have n2_ := Aside0.mk (below_step (by repeat (first | (with_reducible first | exact HB.out | apply below_alloc | apply pw_below_drewN | apply below_drew1) | exact HB.out)) hb); clear HO_11; clear HO330; clear HB; have HO_11 := n0_; have HO330 := n1_; have HB := n2_; clear n0_ n1_ n2_; (try clear hb); (try clear hb2); (try clear hk); (try clear hi)) | ((with_reducible refine gate_builtin (b := .append) (xs := #[.tmp 58, .tmp 63]) rfl ?_); at_builtin; refine Kd.R_append Kd.string (w0 := w) w.heap.size rfl (.tmp 58) (.tmp 63) 22 9 (.string ⟨#[]⟩) 16 rfl Tryd.underlying22 info9 rfl (by decide) (by omega) u11 x11_3 t331 [.string t331] (fun k_ => some k_ ≠ (.slice Ao19 y328.length co19 : Value).ownBlock) (fun _ => False) rfl rfl ?aP (fun _ hk => hk.elim) ?aF ?aO ?aB ?aS ?aL ?_; (case aP => exact rfl); (case aB => exact (by repeat (first | (with_reducible first | exact HB.out | apply below_alloc | apply pw_below_drewN | apply below_drew1) | exact HB.out))); (case aF => exact (fun k_ hk => Kd.fresh' (Kd.R_lt (by (with_reducible repeat (first | apply Kd.R_alloc | apply Kd.R_drewN | apply Kd.R_drew)); exact HO330.out)) k_ hk)); (case aO => exact (by (with_reducible repeat (first | apply Kd.R_alloc | apply Kd.R_drewN | apply Kd.R_drew)); exact Kd.R_mono HO_11.out (fun _ hk => hk.2))); (case aS => exact (below_size (by repeat (first | (with_reducible first | exact HB.out | apply below_alloc | apply pw_below_drewN | apply below_drew1) | exact HB.out)))); (case aL => have := LMc15.out; omega); intro v333 w21 ho hb hg hat; rw [← Ny332.out] at ho; have n0_ := Aside0.mk (Kd.R_after (ok := (fun _ => True)) (by (with_reducible repeat (first | apply Kd.R_alloc | apply Kd.R_drewN | apply Kd.R_drew)); exact HO330.out) hg hat); have n1_ := Aside0.mk (hb); have n2_ := Aside0.mk (ho); clear HO330; clear HB; clear HO_11; have HO330 := n0_; have HB := n1_; have HO334 := n2_; clear n0_ n1_ n2_; clear ho hb hg hat) | ((with_reducible refine gate_dst (N := 67) rfl ?_); refine Kd.R_lit Kd.string _ 9 ?hg (N := 67) ?hd (xs := ([rdOf ByteArray.empty l2 x12_3, x0_3] : List ByteArray)) (inner := [.string (rdOf ByteArray.empty l2 x12_3), .string x0_3]) (ok := fun _ => True) (okp := fun _ => True) ?hr ?hp (fun _ hk => hk) trivial (Below.refl _ _) (Nat.le_refl _) (by simp) ?_; (case hd => rfl); (case hg => rfl); (case hr => first | (go_simp; done) | (go_simp; rfl)); (case hp => exact (Reps.one (show Kd.M Kd.string _ _ _ (rdOf ByteArray.empty l2 x12_3) [.string (rdOf ByteArray.empty l2 x12_3)] from rfl) (Reps.one (show Kd.M Kd.string _ _ _ x0_3 [.string x0_3] from rfl) (Reps.none _ _)))); intro v336 w22 ho23 hb hg_ hnew_; clear hg_ hnew_; (first | rw [← Ny335.out] at ho23 | (simp only [Int.reduceToNat] at ho23; rw [← Ny335.out] at ho23)); have n0_ := Aside0.mk (Kd.R_elder' (by (with_reducible repeat (first | apply Kd.R_alloc | apply Kd.R_drewN | apply Kd.R_drew)); exact HO330.out) (Kd.R_base ho23) hb); have n1_ := Aside0.mk (Kd.R_elder' (by (with_reducible repeat (first | apply Kd.R_alloc | apply Kd.R_drewN | apply Kd.R_drew)); exact HO334.out) (Kd.R_base ho23) hb); have n2_ := Aside0.mk (Kd.R_lower (Kd.R_new' (Kd.R_new' ho23 (Kd.R_lt (by (with_reducible repeat (first | apply Kd.R_alloc | apply Kd.R_drewN | apply Kd.R_drew)); exact HO330.out))) (Kd.R_lt (by (with_reducible repeat (first | apply Kd.R_alloc | apply Kd.R_drewN | apply Kd.R_drew)); exact HO334.out))) (below_size (by repeat (first | (with_reducible first | exact HB.out | apply below_alloc | apply pw_below_drewN | apply below_drew1) | exact HB.out)))); have n3_ := Aside0.mk (below_step (by repeat (first | (with_reducible first | exact HB.out | apply below_alloc | apply pw_below_drewN | apply below_drew1) | exact HB.out)) hb); clear HO330; clear HO334; clear HB; have HO330 := n0_; have HO334 := n1_; have HO337 := n2_; have HB := n3_; clear n0_ n1_ n2_ n3_; clear hb ho23; obtain ⟨Ao24, co24, eo24⟩ := Kd.R_slice HO337.out; subst eo24) | (go_at_call 20; (with_reducible refine (palaverref02_Tag.calls k3 4 _ _ y335 t338 _ ?side1 ?side2 A16.out).mono ?_); (case side1 => repeat (first | exact (Kd.R_reads' HO337.out).2.2 | (with_reducible refine Kd.C_alloc ?_ _) | (with_reducible refine Kd.C_drewN ?_ _) | (with_reducible refine Kd.C_drew ?_))); (case side2 => exact (Kd.R_reads' HO337.out).2.1); rintro e w25 ⟨rfl, hb⟩; have n0_ := Aside0.mk (Kd.R_below (by (with_reducible repeat (first | apply Kd.R_alloc | apply Kd.R_drewN | apply Kd.R_drew)); exact HO330.out) hb); have n1_ := Aside0.mk (Kd.R_below (by (with_reducible repeat (first | apply Kd.R_alloc | apply Kd.R_drewN | apply Kd.R_drew)); exact HO334.out) hb); have n2_ := Aside0.mk (Kd.R_below (by (with_reducible repeat (first | apply Kd.R_alloc | apply Kd.R_drewN | apply Kd.R_drew)); exact HO337.out) hb); have n3_ := Aside0.mk (below_step (by repeat (first | (with_reducible first | exact HB.out | apply below_alloc | apply pw_below_drewN | apply below_drew1) | exact HB.out)) hb); clear HO330; clear HO334; clear HO337; clear HB; have HO330 := n0_; have HO334 := n1_; have HO337 := n2_; have HB := n3_; clear n0_ n1_ n2_ n3_; (try clear hb); (try clear hb2); (try clear hk); (try clear hi))))
          go_roundg k3
          case measure => have := HJ3.out; have := HJ6.out; have := HK3.out; omega
          case rel => exact ⟨(t338), (wrap64 (Int.tdiv x1_3 2)), (y332), (wrap64 (x12_3 + 1)), (by first | rfl | (simp; done) | (simp [*]; done) | exact congrArg Value.bool (nonempty_l _) | (refine congrArg (Value.int _) ?_; first | omega | (unfold Go.RowKit.wrap64; omega))), (by first | rfl | (simp; done) | (simp [*]; done) | exact congrArg Value.bool (nonempty_l _) | (refine congrArg (Value.int _) ?_; first | omega | (unfold Go.RowKit.wrap64; omega))), (by first | rfl | (simp; done) | (simp [*]; done) | exact congrArg Value.bool (nonempty_l _) | (refine congrArg (Value.int _) ?_; first | omega | (unfold Go.RowKit.wrap64; omega))), H', ⟨by have := HJ3.out; have := HJ6.out; have := HK3.out; omega⟩, ⟨by (with_reducible repeat (first | apply Kd.R_alloc | apply Kd.R_drewN | apply Kd.R_drew)); exact Kd.R_mono HO334.out (fun _ hk => trivial)⟩, ⟨by repeat (first | (with_reducible first | exact HB.out | apply below_alloc | apply pw_below_drewN | apply below_drew1) | exact HB.out)⟩⟩
         ·rw [if_neg c13] at H
          have c13b0 : ((Int.tmod x1_3 2) == 1) = false := beq_eq_false_iff_ne.mpr c13
          have c13b1 : ((Int.tmod x1_3 2) != 1) = true := bne_iff_ne.mpr c13
          obtain ⟨y339, hy339⟩ : ∃ y_ : List ByteArray, y_ = (([x0_3, rdOf ByteArray.empty l2 x12_3] : List ByteArray)) := ⟨_, rfl⟩
          replace H : ((palaverref02_Input.f k3 4 y339).bind fun t342 => (if x11_3.length < 8796093022208 then ((palaverref02_Tag.f k3 4 (([x0_3, rdOf ByteArray.empty l2 x12_3] : List ByteArray))).bind fun t349 => (palaverref04_Fold.l1 k3 t349 (wrap64 (Int.tdiv x1_3 2)) l2 (x11_3 ++ [t342]) (wrap64 (x12_3 + 1)))) else (none))) = some (r1, r2, r3) := by first | (rw [hy339]; with_reducible exact H) | (have H2_ := (Option.bind_some _ _).symm.trans H; rw [hy339]; with_reducible exact H2_) | (have H2_ := (Option.bind_some _ _).symm.trans H; with_reducible exact H2_) | with_reducible exact H | (rw [hy339]; exact H) | exact H
          have Ny339 := Aside0.mk hy339
          clear hy339
          replace H := Option.bind_eq_some_iff.mp H
          obtain ⟨t342, A260, H⟩ := H
          replace H : (if x11_3.length < 8796093022208 then ((palaverref02_Tag.f k3 4 (([x0_3, rdOf ByteArray.empty l2 x12_3] : List ByteArray))).bind fun t349 => (palaverref04_Fold.l1 k3 t349 (wrap64 (Int.tdiv x1_3 2)) l2 (x11_3 ++ [t342]) (wrap64 (x12_3 + 1)))) else (none)) = some (r1, r2, r3) := H
          have A26 := Aside0.mk A260
          clear A260
          by_cases c27 : x11_3.length < 8796093022208
          rotate_left
          ·rw [if_neg c27] at H
           exact absurd H (by simp)
          rw [if_pos c27] at H
          have LMc27 := Aside0.mk c27
          clear c27
          obtain ⟨y343, hy343⟩ : ∃ y_ : List ByteArray, y_ = (x11_3 ++ [t342]) := ⟨_, rfl⟩
          replace H : ((palaverref02_Tag.f k3 4 (([x0_3, rdOf ByteArray.empty l2 x12_3] : List ByteArray))).bind fun t349 => (palaverref04_Fold.l1 k3 t349 (wrap64 (Int.tdiv x1_3 2)) l2 y343 (wrap64 (x12_3 + 1)))) = some (r1, r2, r3) := by first | (rw [hy343]; with_reducible exact H) | (have H2_ := (Option.bind_some _ _).symm.trans H; rw [hy343]; with_reducible exact H2_) | (have H2_ := (Option.bind_some _ _).symm.trans H; with_reducible exact H2_) | with_reducible exact H | (rw [hy343]; exact H) | exact H
          have Ny343 := Aside0.mk hy343
          clear hy343
          obtain ⟨y346, hy346⟩ : ∃ y_ : List ByteArray, y_ = (([x0_3, rdOf ByteArray.empty l2 x12_3] : List ByteArray)) := ⟨_, rfl⟩
          replace H : ((palaverref02_Tag.f k3 4 y346).bind fun t349 => (palaverref04_Fold.l1 k3 t349 (wrap64 (Int.tdiv x1_3 2)) l2 y343 (wrap64 (x12_3 + 1)))) = some (r1, r2, r3) := by first | (rw [hy346]; with_reducible exact H) | (have H2_ := (Option.bind_some _ _).symm.trans H; rw [hy346]; with_reducible exact H2_) | (have H2_ := (Option.bind_some _ _).symm.trans H; with_reducible exact H2_) | with_reducible exact H | (rw [hy346]; exact H) | exact H
          have Ny346 := Aside0.mk hy346
          clear hy346
          replace H := Option.bind_eq_some_iff.mp H
          obtain ⟨t349, A280, H⟩ := H
          replace H : (palaverref04_Fold.l1 k3 t349 (wrap64 (Int.tdiv x1_3 2)) l2 y343 (wrap64 (x12_3 + 1))) = some (r1, r2, r3) := H
          have A28 := Aside0.mk A280
          clear A280
          have H' := Aside0.mk H
          clear H
          have p326 : 0 ≤ (x12_3 : Int) := of_decide_eq_true (by first | (with_reducible assumption) | assumption)
          have q326 : x12_3 < (l2.length : Int) := of_decide_eq_true (by first | (with_reducible assumption) | assumption)
          obtain ⟨ad326, e326, hx326_0⟩ := Kd.at_string HR2.out x12_3 p326 q326
          cases e326
          replace hx326_0 := (HB.out.cell (World.block_lt_of_cell? w _ hx326_0)).trans hx326_0
          replace p326 := eq_true p326
          replace q326 := eq_true q326
          go_wp2_with (first | ((with_reducible refine gate_dst (N := 61) rfl ?_); refine Kd.R_lit Kd.string _ 9 ?hg (N := 61) ?hd (xs := ([x0_3, rdOf ByteArray.empty l2 x12_3] : List ByteArray)) (inner := [.string x0_3, .string (rdOf ByteArray.empty l2 x12_3)]) (ok := fun _ => True) (okp := fun _ => True) ?hr ?hp (fun _ hk => hk) trivial (Below.refl _ _) (Nat.le_refl _) (by simp) ?_; (case hd => rfl); (case hg => rfl); (case hr => first | (go_simp; done) | (go_simp; rfl)); (case hp => exact (Reps.one (show Kd.M Kd.string _ _ _ x0_3 [.string x0_3] from rfl) (Reps.one (show Kd.M Kd.string _ _ _ (rdOf ByteArray.empty l2 x12_3) [.string (rdOf ByteArray.empty l2 x12_3)] from rfl) (Reps.none _ _)))); intro v340 w29 ho30 hb hg_ hnew_; clear hg_ hnew_; (first | rw [← Ny339.out] at ho30 | (simp only [Int.reduceToNat] at ho30; rw [← Ny339.out] at ho30)); have n0_ := Aside0.mk (Kd.R_elder' (by (with_reducible repeat (first | apply Kd.R_alloc | apply Kd.R_drewN | apply Kd.R_drew)); exact HO_11.out) (Kd.R_base ho30) hb); have n1_ := Aside0.mk (Kd.R_lower (Kd.R_new' ho30 (Kd.R_lt (by (with_reducible repeat (first | apply Kd.R_alloc | apply Kd.R_drewN | apply Kd.R_drew)); exact HO_11.out))) (below_size (by repeat (first | (with_reducible first | exact HB.out | apply below_alloc | apply pw_below_drewN | apply below_drew1) | exact HB.out)))); have n2_ := Aside0.mk (below_step (by repeat (first | (with_reducible first | exact HB.out | apply below_alloc | apply pw_below_drewN | apply below_drew1) | exact HB.out)) hb); clear HO_11; clear HB; have HO_11 := n0_; have HO341 := n1_; have HB := n2_; clear n0_ n1_ n2_; clear hb ho30; obtain ⟨Ao31, co31, eo31⟩ := Kd.R_slice HO341.out; subst eo31) | (go_at_call 24; (with_reducible refine (palaverref02_Input.calls k3 4 _ _ y339 t342 _ ?side1 ?side2 A26.out).mono ?_); (case side1 => repeat (first | exact (Kd.R_reads' HO341.out).2.2 | (with_reducible refine Kd.C_alloc ?_ _) | (with_reducible refine Kd.C_drewN ?_ _) | (with_reducible refine Kd.C_drew ?_))); (case side2 => exact (Kd.R_reads' HO341.out).2.1); rintro e w32 ⟨rfl, hb⟩; have n0_ := Aside0.mk (Kd.R_below (by (with_reducible repeat (first | apply Kd.R_alloc | apply Kd.R_drewN | apply Kd.R_drew)); exact HO_11.out) hb); have n1_ := Aside0.mk (Kd.R_below (by (with_reducible repeat (first | apply Kd.R_alloc | apply Kd.R_drewN | apply Kd.R_drew)); exact HO341.out) hb); have n2_ := Aside0.mk (below_step (by repeat (first | (with_reducible first | exact HB.out | apply below_alloc | apply pw_below_drewN | apply below_drew1) | exact HB.out)) hb); clear HO_11; clear HO341; clear HB; have HO_11 := n0_; have HO341 := n1_; have HB := n2_; clear n0_ n1_ n2_; (try clear hb); (try clear hb2); (try clear hk); (try clear hi)) | ((with_reducible refine gate_builtin (b := .append) (xs := #[.tmp 58, .tmp 63]) rfl ?_); at_builtin; refine Kd.R_append Kd.string (w0 := w) w.heap.size rfl (.tmp 58) (.tmp 63) 22 9 (.string ⟨#[]⟩) 16 rfl Tryd.underlying22 info9 rfl (by decide) (by omega) u11 x11_3 t342 [.string t342] (fun k_ => some k_ ≠ (.slice Ao31 y339.length co31 : Value).ownBlock) (fun _ => False) rfl rfl ?aP (fun _ hk => hk.elim) ?aF ?aO ?aB ?aS ?aL ?_; (case aP => exact rfl); (case aB => exact (by repeat (first | (with_reducible first | exact HB.out | apply below_alloc | apply pw_below_drewN | apply below_drew1) | exact HB.out))); (case aF => exact (fun k_ hk => Kd.fresh' (Kd.R_lt (by (with_reducible repeat (first | apply Kd.R_alloc | apply Kd.R_drewN | apply Kd.R_drew)); exact HO341.out)) k_ hk)); (case aO => exact (by (with_reducible repeat (first | apply Kd.R_alloc | apply Kd.R_drewN | apply Kd.R_drew)); exact Kd.R_mono HO_11.out (fun _ hk => hk.2))); (case aS => exact (below_size (by repeat (first | (with_reducible first | exact HB.out | apply below_alloc | apply pw_below_drewN | apply below_drew1) | exact HB.out)))); (case aL => have := LMc27.out; omega); intro v344 w33 ho hb hg hat; rw [← Ny343.out] at ho; have n0_ := Aside0.mk (Kd.R_after (ok := (fun _ => True)) (by (with_reducible repeat (first | apply Kd.R_alloc | apply Kd.R_drewN | apply Kd.R_drew)); exact HO341.out) hg hat); have n1_ := Aside0.mk (hb); have n2_ := Aside0.mk (ho); clear HO341; clear HB; clear HO_11; have HO341 := n0_; have HB := n1_; have HO345 := n2_; clear n0_ n1_ n2_; clear ho hb hg hat) | ((with_reducible refine gate_dst (N := 67) rfl ?_); refine Kd.R_lit Kd.string _ 9 ?hg (N := 67) ?hd (xs := ([x0_3, rdOf ByteArray.empty l2 x12_3] : List ByteArray)) (inner := [.string x0_3, .string (rdOf ByteArray.empty l2 x12_3)]) (ok := fun _ => True) (okp := fun _ => True) ?hr ?hp (fun _ hk => hk) trivial (Below.refl _ _) (Nat.le_refl _) (by simp) ?_; (case hd => rfl); (case hg => rfl); (case hr => first | (go_simp; done) | (go_simp; rfl)); (case hp => exact (Reps.one (show Kd.M Kd.string _ _ _ x0_3 [.string x0_3] from rfl) (Reps.one (show Kd.M Kd.string _ _ _ (rdOf ByteArray.empty l2 x12_3) [.string (rdOf ByteArray.empty l2 x12_3)] from rfl) (Reps.none _ _)))); intro v347 w34 ho35 hb hg_ hnew_; clear hg_ hnew_; (first | rw [← Ny346.out] at ho35 | (simp only [Int.reduceToNat] at ho35; rw [← Ny346.out] at ho35)); have n0_ := Aside0.mk (Kd.R_elder' (by (with_reducible repeat (first | apply Kd.R_alloc | apply Kd.R_drewN | apply Kd.R_drew)); exact HO341.out) (Kd.R_base ho35) hb); have n1_ := Aside0.mk (Kd.R_elder' (by (with_reducible repeat (first | apply Kd.R_alloc | apply Kd.R_drewN | apply Kd.R_drew)); exact HO345.out) (Kd.R_base ho35) hb); have n2_ := Aside0.mk (Kd.R_lower (Kd.R_new' (Kd.R_new' ho35 (Kd.R_lt (by (with_reducible repeat (first | apply Kd.R_alloc | apply Kd.R_drewN | apply Kd.R_drew)); exact HO341.out))) (Kd.R_lt (by (with_reducible repeat (first | apply Kd.R_alloc | apply Kd.R_drewN | apply Kd.R_drew)); exact HO345.out))) (below_size (by repeat (first | (with_reducible first | exact HB.out | apply below_alloc | apply pw_below_drewN | apply below_drew1) | exact HB.out)))); have n3_ := Aside0.mk (below_step (by repeat (first | (with_reducible first | exact HB.out | apply below_alloc | apply pw_below_drewN | apply below_drew1) | exact HB.out)) hb); clear HO341; clear HO345; clear HB; have HO341 := n0_; have HO345 := n1_; have HO348 := n2_; have HB := n3_; clear n0_ n1_ n2_ n3_; clear hb ho35; obtain ⟨Ao36, co36, eo36⟩ := Kd.R_slice HO348.out; subst eo36) | (go_at_call 20; (with_reducible refine (palaverref02_Tag.calls k3 4 _ _ y346 t349 _ ?side1 ?side2 A28.out).mono ?_); (case side1 => repeat (first | exact (Kd.R_reads' HO348.out).2.2 | (with_reducible refine Kd.C_alloc ?_ _) | (with_reducible refine Kd.C_drewN ?_ _) | (with_reducible refine Kd.C_drew ?_))); (case side2 => exact (Kd.R_reads' HO348.out).2.1); rintro e w37 ⟨rfl, hb⟩; have n0_ := Aside0.mk (Kd.R_below (by (with_reducible repeat (first | apply Kd.R_alloc | apply Kd.R_drewN | apply Kd.R_drew)); exact HO341.out) hb); have n1_ := Aside0.mk (Kd.R_below (by (with_reducible repeat (first | apply Kd.R_alloc | apply Kd.R_drewN | apply Kd.R_drew)); exact HO345.out) hb); have n2_ := Aside0.mk (Kd.R_below (by (with_reducible repeat (first | apply Kd.R_alloc | apply Kd.R_drewN | apply Kd.R_drew)); exact HO348.out) hb); have n3_ := Aside0.mk (below_step (by repeat (first | (with_reducible first | exact HB.out | apply below_alloc | apply pw_below_drewN | apply below_drew1) | exact HB.out)) hb); clear HO341; clear HO345; clear HO348; clear HB; have HO341 := n0_; have HO345 := n1_; have HO348 := n2_; have HB := n3_; clear n0_ n1_ n2_ n3_; (try clear hb); (try clear hb2); (try clear hk); (try clear hi)))
          repeat (go_quiet (first | ((with_reducible refine gate_dst (N := 61) rfl ?_); refine Kd.R_lit Kd.string _ 9 ?hg (N := 61) ?hd (xs := ([x0_3, rdOf ByteArray.empty l2 x12_3] : List ByteArray)) (inner := [.string x0_3, .string (rdOf ByteArray.empty l2 x12_3)]) (ok := fun _ => True) (okp := fun _ => True) ?hr ?hp (fun _ hk => hk) trivial (Below.refl _ _) (Nat.le_refl _) (by simp) ?_; (case hd => rfl); (case hg => rfl); (case hr => first | (go_simp; done) | (go_simp; rfl)); (case hp => exact (Reps.one (show Kd.M Kd.string _ _ _ x0_3 [.string x0_3] from rfl) (Reps.one (show Kd.M Kd.string _ _ _ (rdOf ByteArray.empty l2 x12_3) [.string (rdOf ByteArray.empty l2 x12_3)] from rfl) (Reps.none _ _)))); intro v340 w29 ho30 hb hg_ hnew_; clear hg_ hnew_; (first | rw [← Ny339.out] at ho30 | (simp only [Int.reduceToNat] at ho30; rw [← Ny339.out] at ho30)); have n0_ := Aside0.mk (Kd.R_elder' (by (with_reducible repeat (first | apply Kd.R_alloc | apply Kd.R_drewN | apply Kd.R_drew)); exact HO_11.out) (Kd.R_base ho30) hb); have n1_ := Aside0.mk (Kd.R_lower (Kd.R_new' ho30 (Kd.R_lt (by (with_reducible repeat (first | apply Kd.R_alloc | apply Kd.R_drewN | apply Kd.R_drew)); exact HO_11.out))) (below_size (by repeat (first | (with_reducible first | exact HB.out | apply below_alloc | apply pw_below_drewN | apply below_drew1) | exact HB.out)))); have n2_ := Aside0.mk (below_step (by repeat (first | (with_reducible first | exact HB.out | apply below_alloc | apply pw_below_drewN | apply below_drew1) | exact HB.out)) hb); clear HO_11; clear HB; have HO_11 := n0_; have HO341 := n1_; have HB := n2_; clear n0_ n1_ n2_; clear hb ho30; obtain ⟨Ao31, co31, eo31⟩ := Kd.R_slice HO341.out; subst eo31) | (go_at_call 24; (with_reducible refine (palaverref02_Input.calls k3 4 _ _ y339 t342 _ ?side1 ?side2 A26.out).mono ?_); (case side1 => repeat (first | exact (Kd.R_reads' HO341.out).2.2 | (with_reducible refine Kd.C_alloc ?_ _) | (with_reducible refine Kd.C_drewN ?_ _) | (with_reducible refine Kd.C_drew ?_))); (case side2 => exact (Kd.R_reads' HO341.out).2.1); rintro e w32 ⟨rfl, hb⟩; have n0_ := Aside0.mk (Kd.R_below (by (with_reducible repeat (first | apply Kd.R_alloc | apply Kd.R_drewN | apply Kd.R_drew)); exact HO_11.out) hb); have n1_ := Aside0.mk (Kd.R_below (by (with_reducible repeat (first | apply Kd.R_alloc | apply Kd.R_drewN | apply Kd.R_drew)); exact HO341.out) hb); have n2_ := Aside0.mk (below_step (by repeat (first | (with_reducible first | exact HB.out | apply below_alloc | apply pw_below_drewN | apply below_drew1) | exact HB.out)) hb); clear HO_11; clear HO341; clear HB; have HO_11 := n0_; have HO341 := n1_; have HB := n2_; clear n0_ n1_ n2_; (try clear hb); (try clear hb2); (try clear hk); (try clear hi)) | ((with_reducible refine gate_builtin (b := .append) (xs := #[.tmp 58, .tmp 63]) rfl ?_); at_builtin; refine Kd.R_append Kd.string (w0 := w) w.heap.size rfl (.tmp 58) (.tmp 63) 22 9 (.string ⟨#[]⟩) 16 rfl Tryd.underlying22 info9 rfl (by decide) (by omega) u11 x11_3 t342 [.string t342] (fun k_ => some k_ ≠ (.slice Ao31 y339.length co31 : Value).ownBlock) (fun _ => False) rfl rfl ?aP (fun _ hk => hk.elim) ?aF ?aO ?aB ?aS ?aL ?_; (case aP => exact rfl); (case aB => exact (by repeat (first | (with_reducible first | exact HB.out | apply below_alloc | apply pw_below_drewN | apply below_drew1) | exact HB.out))); (case aF => exact (fun k_ hk => Kd.fresh' (Kd.R_lt (by (with_reducible repeat (first | apply Kd.R_alloc | apply Kd.R_drewN | apply Kd.R_drew)); exact HO341.out)) k_ hk)); (case aO => exact (by (with_reducible repeat (first | apply Kd.R_alloc | apply Kd.R_drewN | apply Kd.R_drew)); exact Kd.R_mono HO_11.out (fun _ hk => hk.2))); (case aS => exact (below_size (by repeat (first | (with_reducible first | exact HB.out | apply below_alloc | apply pw_below_drewN | apply below_drew1) | exact HB.out)))); (case aL => have := LMc27.out; omega); intro v344 w33 ho hb hg hat; rw [← Ny343.out] at ho; have n0_ := Aside0.mk (Kd.R_after (ok := (fun _ => True)) (by (with_reducible repeat (first | apply Kd.R_alloc | apply Kd.R_drewN | apply Kd.R_drew)); exact HO341.out) hg hat); have n1_ := Aside0.mk (hb); have n2_ := Aside0.mk (ho); clear HO341; clear HB; clear HO_11; have HO341 := n0_; have HB := n1_; have HO345 := n2_; clear n0_ n1_ n2_; clear ho hb hg hat) | ((with_reducible refine gate_dst (N := 67) rfl ?_); refine Kd.R_lit Kd.string _ 9 ?hg (N := 67) ?hd (xs := ([x0_3, rdOf ByteArray.empty l2 x12_3] : List ByteArray)) (inner := [.string x0_3, .string (rdOf ByteArray.empty l2 x12_3)]) (ok := fun _ => True) (okp := fun _ => True) ?hr ?hp (fun _ hk => hk) trivial (Below.refl _ _) (Nat.le_refl _) (by simp) ?_; (case hd => rfl); (case hg => rfl); (case hr => first | (go_simp; done) | (go_simp; rfl)); (case hp => exact (Reps.one (show Kd.M Kd.string _ _ _ x0_3 [.string x0_3] from rfl) (Reps.one (show Kd.M Kd.string _ _ _ (rdOf ByteArray.empty l2 x12_3) [.string (rdOf ByteArray.empty l2 x12_3)] from rfl) (Reps.none _ _)))); intro v347 w34 ho35 hb hg_ hnew_; clear hg_ hnew_; (first | rw [← Ny346.out] at ho35 | (simp only [Int.reduceToNat] at ho35; rw [← Ny346.out] at ho35)); have n0_ := Aside0.mk (Kd.R_elder' (by (with_reducible repeat (first | apply Kd.R_alloc | apply Kd.R_drewN | apply Kd.R_drew)); exact HO341.out) (Kd.R_base ho35) hb); have n1_ := Aside0.mk (Kd.R_elder' (by (with_reducible repeat (first | apply Kd.R_alloc | apply Kd.R_drewN | apply Kd.R_drew)); exact HO345.out) (Kd.R_base ho35) hb); have n2_ := Aside0.mk (Kd.R_lower (Kd.R_new' (Kd.R_new' ho35 (Kd.R_lt (by (with_reducible repeat (first | apply Kd.R_alloc | apply Kd.R_drewN | apply Kd.R_drew)); exact HO341.out))) (Kd.R_lt (by (with_reducible repeat (first | apply Kd.R_alloc | apply Kd.R_drewN | apply Kd.R_drew)); exact HO345.out))) (below_size (by repeat (first | (with_reducible first | exact HB.out | apply below_alloc | apply pw_below_drewN | apply below_drew1) | exact HB.out)))); have n3_ := Aside0.mk (below_step (by repeat (first | (with_reducible first | exact HB.out | apply below_alloc | apply pw_below_drewN | apply below_drew1) | exact HB.out)) hb); clear HO341; clear HO345; clear HB; have HO341 := n0_; have HO345 := n1_; have HO348 := n2_; have HB := n3_; clear n0_ n1_ n2_ n3_; clear hb ho35; obtain ⟨Ao36, co36, eo36⟩ := Kd.R_slice HO348.out; subst eo36) | (go_at_call 20; (with_reducible refine (palaverref02_Tag.calls k3 4 _ _ y346 t349 _ ?side1 ?side2 A28.out).mono ?_); (case side1 => repeat (first | exact (Kd.R_reads' HO348.out).2.2 | (with_reducible refine Kd.C_alloc ?_ _) | (with_reducible refine Kd.C_drewN ?_ _) | (with_reducible refine Kd.C_drew ?_))); (case side2 => exact (Kd.R_reads' HO348.out).2.1); rintro e w37 ⟨rfl, hb⟩; have n0_ := Aside0.mk (Kd.R_below (by (with_reducible repeat (first | apply Kd.R_alloc | apply Kd.R_drewN | apply Kd.R_drew)); exact HO341.out) hb); have n1_ := Aside0.mk (Kd.R_below (by (with_reducible repeat (first | apply Kd.R_alloc | apply Kd.R_drewN | apply Kd.R_drew)); exact HO345.out) hb); have n2_ := Aside0.mk (Kd.R_below (by (with_reducible repeat (first | apply Kd.R_alloc | apply Kd.R_drewN | apply Kd.R_drew)); exact HO348.out) hb); have n3_ := Aside0.mk (below_step (by repeat (first | (with_reducible first | exact HB.out | apply below_alloc | apply pw_below_drewN | apply below_drew1) | exact HB.out)) hb); clear HO341; clear HO345; clear HO348; clear HB; have HO341 := n0_; have HO345 := n1_; have HO348 := n2_; have HB := n3_; clear n0_ n1_ n2_ n3_; (try clear hb); (try clear hb2); (try clear hk); (try clear hi))); try go_wp2_with (first | ((with_reducible refine gate_dst (N := 61) rfl ?_); refine Kd.R_lit Kd.string _ 9 ?hg (N := 61) ?hd (xs := ([x0_3, rdOf ByteArray.empty l2 x12_3] : List ByteArray)) (inner := [.string x0_3, .string (rdOf ByteArray.empty l2 x12_3)]) (ok := fun _ => True) (okp := fun _ => True) ?hr ?hp (fun _ hk => hk) trivial (Below.refl _ _) (Nat.le_refl _) (by simp) ?_; (case hd => rfl); (case hg => rfl); (case hr => first | (go_simp; done) | (go_simp; rfl)); (case hp => exact (Reps.one (show Kd.M Kd.string _ _ _ x0_3 [.string x0_3] from rfl) (Reps.one (show Kd.M Kd.string _ _ _ (rdOf ByteArray.empty l2 x12_3) [.string (rdOf ByteArray.empty l2 x12_3)] from rfl) (Reps.none _ _)))); intro v340 w29 ho30 hb hg_ hnew_; clear hg_ hnew_; (first | rw [← Ny339.out] at ho30 | (simp only [Int.reduceToNat] at ho30; rw [← Ny339.out] at ho30)); have n0_ := Aside0.mk (Kd.R_elder' (by (with_reducible repeat (first | apply Kd.R_alloc | apply Kd.R_drewN | apply Kd.R_drew)); exact HO_11.out) (Kd.R_base ho30) hb); have n1_ := Aside0.mk (Kd.R_lower (Kd.R_new' ho30 (Kd.R_lt (by (with_reducible repeat (first | apply Kd.R_alloc | apply Kd.R_drewN | apply Kd.R_drew)); exact HO_11.out))) (below_size (by repeat (first | (with_reducible first | exact HB.out | apply below_alloc | apply pw_below_drewN | apply below_drew1) | exact HB.out)))); have n2_ := Aside0.mk (below_step (by repeat (first | (with_reducible first | exact HB.out | apply below_alloc | apply pw_below_drewN | apply below_drew1) | exact HB.out)) hb); clear HO_11; clear HB; have HO_11 := n0_; have HO341 := n1_; have HB := n2_; clear n0_ n1_ n2_; clear hb ho30; obtain ⟨Ao31, co31, eo31⟩ := Kd.R_slice HO341.out; subst eo31) | (go_at_call 24; (with_reducible refine (palaverref02_Input.calls k3 4 _ _ y339 t342 _ ?side1 ?side2 A26.out).mono ?_); (case side1 => repeat (first | exact (Kd.R_reads' HO341.out).2.2 | (with_reducible refine Kd.C_alloc ?_ _) | (with_reducible refine Kd.C_drewN ?_ _) | (with_reducible refine Kd.C_drew ?_))); (case side2 => exact (Kd.R_reads' HO341.out).2.1); rintro e w32 ⟨rfl, hb⟩; have n0_ := Aside0.mk (Kd.R_below (by (with_reducible repeat (first | apply Kd.R_alloc | apply Kd.R_drewN | apply Kd.R_drew)); exact HO_11.out) hb); have n1_ := Aside0.mk (Kd.R_below (by (with_reducible repeat (first | apply Kd.R_alloc | apply Kd.R_drewN | apply Kd.R_drew)); exact HO341.out) hb); have n2_ := Aside0.mk (below_step (by repeat (first | (with_reducible first | exact HB.out | apply below_alloc | apply pw_below_drewN | apply below_drew1) | exact HB.out)) hb); clear HO_11; clear HO341; clear HB; have HO_11 := n0_; have HO341 := n1_; have HB := n2_; clear n0_ n1_ n2_; (try clear hb); (try clear hb2); (try clear hk); (try clear hi)) | ((with_reducible refine gate_builtin (b := .append) (xs := #[.tmp 58, .tmp 63]) rfl ?_); at_builtin; refine Kd.R_append Kd.string (w0 := w) w.heap.size rfl (.tmp 58) (.tmp 63) 22 9 (.string ⟨#[]⟩) 16 rfl Tryd.underlying22 info9 rfl (by decide) (by omega) u11 x11_3 t342 [.string t342] (fun k_ => some k_ ≠ (.slice Ao31 y339.length co31 : Value).ownBlock) (fun _ => False) rfl rfl ?aP (fun _ hk => hk.elim) ?aF ?aO ?aB ?aS ?aL ?_; (case aP => exact rfl); (case aB => exact (by repeat (first | (with_reducible first | exact HB.out | apply below_alloc | apply pw_below_drewN | apply below_drew1) | exact HB.out))); (case aF => exact (fun k_ hk => Kd.fresh' (Kd.R_lt (by (with_reducible repeat (first | apply Kd.R_alloc | apply Kd.R_drewN | apply Kd.R_drew)); exact HO341.out)) k_ hk)); (case aO => exact (by (with_reducible repeat (first | apply Kd.R_alloc | apply Kd.R_drewN | apply Kd.R_drew)); exact Kd.R_mono HO_11.out (fun _ hk => hk.2))); (case aS => exact (below_size (by repeat (first | (with_reducible first | exact HB.out | apply below_alloc | apply pw_below_drewN | apply below_drew1) | exact HB.out)))); (case aL => have := LMc27.out; omega); intro v344 w33 ho hb hg hat; rw [← Ny343.out] at ho; have n0_ := Aside0.mk (Kd.R_after (ok := (fun _ => True)) (by (with_reducible repeat (first | apply Kd.R_alloc | apply Kd.R_drewN | apply Kd.R_drew)); exact HO341.out) hg hat); have n1_ := Aside0.mk (hb); have n2_ := Aside0.mk (ho); clear HO341; clear HB; clear HO_11; have HO341 := n0_; have HB := n1_; have HO345 := n2_; clear n0_ n1_ n2_; clear ho hb hg hat) | ((with_reducible refine gate_dst (N := 67) rfl ?_); refine Kd.R_lit Kd.string _ 9 ?hg (N := 67) ?hd (xs := ([x0_3, rdOf ByteArray.empty l2 x12_3] : List ByteArray)) (inner := [.string x0_3, .string (rdOf ByteArray.empty l2 x12_3)]) (ok := fun _ => True) (okp := fun _ => True) ?hr ?hp (fun _ hk => hk) trivial (Below.refl _ _) (Nat.le_refl _) (by simp) ?_; (case hd => rfl); (case hg => rfl); (case hr => first | (go_simp; done) | (go_simp; rfl)); (case hp => exact (Reps.one (show Kd.M Kd.string _ _ _ x0_3 [.string x0_3] from rfl) (Reps.one (show Kd.M Kd.string _ _ _ (rdOf ByteArray.empty l2 x12_3) [.string (rdOf ByteArray.empty l2 x12_3)] from rfl) (Reps.none _ _)))); intro v347 w34 ho35 hb hg_ hnew_; clear hg_ hnew_; (first | rw [← Ny346.out] at ho35 | (simp only [Int.reduceToNat] at ho35; rw [← Ny346.out] at ho35)); have n0_ := Aside0.mk (Kd.R_elder' (by (with_reducible repeat (first | apply Kd.R_alloc | apply Kd.R_drewN | apply Kd.R_drew)); exact HO341.out) (Kd.R_base ho35) hb); have n1_ := Aside0.mk (Kd.R_elder' (by (with_reducible repeat (first | apply Kd.R_alloc | apply Kd.R_drewN | apply Kd.R_drew)); exact HO345.out) (Kd.R_base ho35) hb); have n2_ := Aside0.mk (Kd.R_lower (Kd.R_new' (Kd.R_new' ho35 (Kd.R_lt (by (with_reducible repeat (first | apply Kd.R_alloc | apply Kd.R_drewN | apply Kd.R_drew)); exact HO341.out))) (Kd.R_lt (by (with_reducible repeat (first | apply Kd.R_alloc | apply Kd.R_drewN | apply Kd.R_drew)); exact HO345.out))) (below_size (by repeat (first | (with_reducible first | exact HB.out | apply below_alloc | apply pw_below_drewN | apply below_drew1) | exact HB.out)))); have n3_ := Aside0.mk (below_step (by repeat (first | (with_reducible first | exact HB.out | apply below_alloc | apply pw_below_drewN | apply below_drew1) | exact HB.out)) hb); clear HO341; clear HO345; clear HB; have HO341 := n0_; have HO345 := n1_; have HO348 := n2_; have HB := n3_; clear n0_ n1_ n2_ n3_; clear hb ho35; obtain ⟨Ao36, co36, eo36⟩ := Kd.R_slice HO348.out; subst eo36) | (go_at_call 20; (with_reducible refine (palaverref02_Tag.calls k3 4 _ _ y346 t349 _ ?side1 ?side2 A28.out).mono ?_); (case side1 => repeat (first | exact (Kd.R_reads' HO348.out).2.2 | (with_reducible refine Kd.C_alloc ?_ _) | (with_reducible refine Kd.C_drewN ?_ _) | (with_reducible refine Kd.C_drew ?_))); (case side2 => exact (Kd.R_reads' HO348.out).2.1); rintro e w37 ⟨rfl, hb⟩; have n0_ := Aside0.mk (Kd.R_below (by (with_reducible repeat (first | apply Kd.R_alloc | apply Kd.R_drewN | apply Kd.R_drew)); exact HO341.out) hb); have n1_ := Aside0.mk (Kd.R_below (by (with_reducible repeat (first | apply Kd.R_alloc | apply Kd.R_drewN | apply Kd.R_drew)); exact HO345.out) hb); have n2_ := Aside0.mk (Kd.R_below (by (with_reducible repeat (first | apply Kd.R_alloc | apply Kd.R_drewN | apply Kd.R_drew)); exact HO348.out) hb); have n3_ := Aside0.mk (below_step (by repeat (first | (with_reducible first | exact HB.out | apply below_alloc | apply pw_below_drewN | apply below_drew1) | exact HB.out)) hb); clear HO341; clear HO345; clear HO348; clear HB; have HO341 := n0_; have HO345 := n1_; have HO348 := n2_; have HB := n3_; clear n0_ n1_ n2_ n3_; (try clear hb); (try clear hb2); (try clear hk); (try clear hi))))
          go_roundg k3
          case measure => have := HJ3.out; have := HJ6.out; have := HK3.out; omega
          case rel => exact ⟨(t349), (wrap64 (Int.tdiv x1_3 2)), (y343), (wrap64 (x12_3 + 1)), (by first | rfl | (simp; done) | (simp [*]; done) | exact congrArg Value.bool (nonempty_l _) | (refine congrArg (Value.int _) ?_; first | omega | (unfold Go.RowKit.wrap64; omega))), (by first | rfl | (simp; done) | (simp [*]; done) | exact congrArg Value.bool (nonempty_l _) | (refine congrArg (Value.int _) ?_; first | omega | (unfold Go.RowKit.wrap64; omega))), (by first | rfl | (simp; done) | (simp [*]; done) | exact congrArg Value.bool (nonempty_l _) | (refine congrArg (Value.int _) ?_; first | omega | (unfold Go.RowKit.wrap64; omega))), H', ⟨by have := HJ3.out; have := HJ6.out; have := HK3.out; omega⟩, ⟨by (with_reducible repeat (first | apply Kd.R_alloc | apply Kd.R_drewN | apply Kd.R_drew)); exact Kd.R_mono HO345.out (fun _ hk => trivial)⟩, ⟨by repeat (first | (with_reducible first | exact HB.out | apply below_alloc | apply pw_below_drewN | apply below_drew1) | exact HB.out)⟩⟩
        ·rw [if_neg c11] at H
         have c11b0 : decide (x12_3 < (l2.length : Int)) = false := decide_eq_false c11
         clear c11
         simp only [Option.some.injEq, Prod.mk.injEq] at H
         obtain ⟨rfl, rfl, rfl⟩ := H
         go_wp2
         repeat (go_quiet (fail); try go_wp2)
         go_ret3
         exact ⟨_, by first | rfl | (simp [errW_none, errW_some] <;> rfl) | (simp [*, errW_none, errW_some] <;> rfl), by (with_reducible repeat (first | apply Kd.R_alloc | apply Kd.R_drewN | apply Kd.R_drew)); exact HO_11.out, by repeat (first | (with_reducible first | exact HB.out | apply below_alloc | apply pw_below_drewN | apply below_drew1) | exact HB.out)⟩

end Go.Proofs.YtmnppogihmhdgaaDoor.PP
