-- WRITTEN BY a program of this work (wip/ownprint.py), for this seat
import Derived.Test.YtmedpnclkbkiiaaDoorPPx0
import Derived.Test.YtmedpnclkbkiiaaDoorPPx2
import Derived.Test.YtmedpnclkbkiiaaDoorPPx4
import Derived.Test.YtmedpnclkbkiiaaDoorPPx5
namespace Go.Proofs.YtmedpnclkbkiiaaDoor.PP
open Go.RowKit Go.Proofs.YtmedpnclkbkiiaaDoorW.PrintWords Go.Proofs.YtmedpnclkbkiiaaDoorW.PrintLast Go.Proofs.YtmedpnclkbkiiaaDoorW.PrintMore
attribute [local go_sem] max2_int min2_int max_two min_two max_three min_three max_four min_four   -- for this text's walks alone
set_option linter.unusedVariables false
set_option linter.unusedSimpArgs false

/-! ### palaverref01_Number: function 47 -/
mutual
def palaverref01_Number.l0 : Nat → Int → Int → Int → Int → Option (ByteArray × Bool)
 | 0, _, _, _, _ => none
 | k + 1, x0, x1, x6, x7 => if x7 < x1 then (palaverref01_Number.l0 k x0 x1 (wrap64 (256 * x6)) (wrap64 (x7 + 1))) else (if x0 < 0 then (palaverref01_Number.j1 k x0 x1 true) else (palaverref01_Number.j1 k x0 x1 (decide (x0 ≥ x6))))
def palaverref01_Number.j1 : Nat → Int → Int → Bool → Option (ByteArray × Bool)
 | 0, _, _, _ => none
 | k + 1, x0, x1, x23 => if x23 = true then (some ((⟨#[]⟩ : ByteArray), false)) else (palaverref01_Number.l1 k x0 x1 (⟨#[]⟩ : ByteArray) 0)
def palaverref01_Number.l1 : Nat → Int → Int → ByteArray → Int → Option (ByteArray × Bool)
 | 0, _, _, _, _ => none
 | k + 1, x0, x1, x8, x9 => if x9 < x1 then ((some (([(Int.tmod x0 256) % 256] : List Int) : List Int)).bind fun y239 => (if (strOfNums y239).size + x8.size ≤ 9223372036854775807 then (palaverref01_Number.l1 k (wrap64 (Int.tdiv x0 256)) x1 ((strOfNums y239) ++ x8) (wrap64 (x9 + 1))) else (none))) else (some (x8, true))
end
def palaverref01_Number.f (k : Nat) (a0 : Int) (a1 : Int) : Option (ByteArray × Bool) := palaverref01_Number.l0 k a0 a1 1 0
theorem palaverref01_Number.mono_l : ∀ k, (∀ y0 y1 y2 y3, LeO (palaverref01_Number.l0 k y0 y1 y2 y3) (palaverref01_Number.l0 (k + 1) y0 y1 y2 y3)) ∧ (∀ y0 y1 y2, LeO (palaverref01_Number.j1 k y0 y1 y2) (palaverref01_Number.j1 (k + 1) y0 y1 y2)) ∧ (∀ y0 y1 y2 y3, LeO (palaverref01_Number.l1 k y0 y1 y2 y3) (palaverref01_Number.l1 (k + 1) y0 y1 y2 y3))
 | 0 => ⟨fun _ _ _ _ r h => by simp [palaverref01_Number.l0] at h, fun _ _ _ r h => by simp [palaverref01_Number.j1] at h, fun _ _ _ _ r h => by simp [palaverref01_Number.l1] at h⟩
 | k + 1 => by
  obtain ⟨ih0, ih1, ih2⟩ := palaverref01_Number.mono_l k
  refine ⟨?_, ?_, ?_⟩
  ·intro y0 y1 y2 y3
   unfold palaverref01_Number.l0
   repeat' first
   | (with_reducible exact ih0 _ _ _ _)
   | (with_reducible exact ih1 _ _ _)
   | (with_reducible exact ih2 _ _ _ _)
   | (with_reducible exact LeO.refl _)
   | (with_reducible exact LeO.none _)
   | (with_reducible refine LeO.ite ?_ ?_)
   | (with_reducible refine LeO.bind ?_ (fun _ => ?_))
   | exact ih0 _ _ _ _
   | exact ih1 _ _ _
   | exact ih2 _ _ _ _
   | exact LeO.none _
   | refine LeO.ite ?_ ?_
   | refine LeO.bind ?_ (fun _ => ?_)
  ·intro y0 y1 y2
   unfold palaverref01_Number.j1
   repeat' first
   | (with_reducible exact ih0 _ _ _ _)
   | (with_reducible exact ih1 _ _ _)
   | (with_reducible exact ih2 _ _ _ _)
   | (with_reducible exact LeO.refl _)
   | (with_reducible exact LeO.none _)
   | (with_reducible refine LeO.ite ?_ ?_)
   | (with_reducible refine LeO.bind ?_ (fun _ => ?_))
   | exact ih0 _ _ _ _
   | exact ih1 _ _ _
   | exact ih2 _ _ _ _
   | exact LeO.none _
   | refine LeO.ite ?_ ?_
   | refine LeO.bind ?_ (fun _ => ?_)
  intro y0 y1 y2 y3
  unfold palaverref01_Number.l1
  repeat' first
  | (with_reducible exact ih0 _ _ _ _)
  | (with_reducible exact ih1 _ _ _)
  | (with_reducible exact ih2 _ _ _ _)
  | (with_reducible exact LeO.refl _)
  | (with_reducible exact LeO.none _)
  | (with_reducible refine LeO.ite ?_ ?_)
  | (with_reducible refine LeO.bind ?_ (fun _ => ?_))
  | exact ih0 _ _ _ _
  | exact ih1 _ _ _
  | exact ih2 _ _ _ _
  | exact LeO.none _
  | refine LeO.ite ?_ ?_
  | refine LeO.bind ?_ (fun _ => ?_)
theorem palaverref01_Number.mono : ∀ a0 a1 k, LeO (palaverref01_Number.f k a0 a1) (palaverref01_Number.f (k + 1) a0 a1) := by
 intro a0 a1 k
 obtain ⟨ih0, ih1, ih2⟩ := palaverref01_Number.mono_l k
 unfold palaverref01_Number.f
 repeat' first
  | (with_reducible exact ih0 _ _ _ _)
  | (with_reducible exact ih1 _ _ _)
  | (with_reducible exact ih2 _ _ _ _)
  | (with_reducible exact LeO.refl _)
  | (with_reducible exact LeO.none _)
  | (with_reducible refine LeO.ite ?_ ?_)
  | (with_reducible refine LeO.bind ?_ (fun _ => ?_))
  | exact ih0 _ _ _ _
  | exact ih1 _ _ _
  | exact ih2 _ _ _ _
  | exact LeO.none _
  | refine LeO.ite ?_ ?_
  | refine LeO.bind ?_ (fun _ => ?_)
set_option maxHeartbeats 64000000 in
set_option maxRecDepth 100000 in
theorem palaverref01_Number.calls (k : Nat) (a0 : Int) (a1 : Int) (r1 : ByteArray) (r2 : Bool) (w : World) (h : palaverref01_Number.f k a0 a1 = some (r1, r2)) :
 Calls Tryd.prog 47 #[.int .i64 a0, .int .i64 a1] w fun e w' => e = .returned (.tuple #[.string r1, .bool r2]) ∧ Below w.heap.size w w' := by
 have HB := Aside0.mk (Below.refl w.heap.size w)
 have H : (palaverref01_Number.l0 k a0 a1 1 0) = some (r1, r2) := h
 clear h
 have H' := Aside0.mk H
 clear H
 go_enter Tryd.func47, Tryd.ntmps47
 go_wp2
 go_loopg [6, 7] k (fun kq v6 v7 w' => ∃ (x6_1 : Int) (x7_1 : Int), v6 = .int .i64 x6_1 ∧ v7 = .int .i64 x7_1 ∧ Aside0 (palaverref01_Number.l0 kq a0 a1 x6_1 x7_1 = some (r1, r2)) ∧ Aside0 (kq ≤ k) ∧ Aside0 (Below w.heap.size w w'))
 case atStart => exact ⟨(1), (0), (by first | rfl | (simp; done) | (simp [*]; done) | exact congrArg Value.bool (nonempty_l _) | (refine congrArg (Value.int _) ?_; first | omega | (unfold wrap64; omega))), (by first | rfl | (simp; done) | (simp [*]; done) | exact congrArg Value.bool (nonempty_l _) | (refine congrArg (Value.int _) ?_; first | omega | (unfold wrap64; omega))), H', ⟨Nat.le_refl _⟩, ⟨by repeat (first | (with_reducible first | exact HB.out | apply lA_ | apply lN_ | apply lD_) | exact HB.out)⟩⟩
 case round =>
  clear H'
  (try clear p2)
  obtain ⟨x6_1, x7_1, rfl, rfl, HA, HK1, HB⟩ := hrel
  cases gk with
  | zero => exact absurd HA.out (by simp [palaverref01_Number.l0])
  | succ k1 =>
   have H := HA.out
   clear HA
   simp only [palaverref01_Number.l0] at H
   by_cases c3 : x7_1 < a1
   ·rw [if_pos c3] at H
    have c3b0 : decide (x7_1 < a1) = true := decide_eq_true c3
    clear c3
    have H' := Aside0.mk H
    clear H
    go_wp2
    go_roundg k1
    case measure => have := HK1.out; omega
    case rel => exact ⟨(wrap64 (256 * x6_1)), (wrap64 (x7_1 + 1)), (by first | rfl | (simp; done) | (simp [*]; done) | exact congrArg Value.bool (nonempty_l _) | (refine congrArg (Value.int _) ?_; first | omega | (unfold wrap64; omega))), (by first | rfl | (simp; done) | (simp [*]; done) | exact congrArg Value.bool (nonempty_l _) | (refine congrArg (Value.int _) ?_; first | omega | (unfold wrap64; omega))), H', ⟨by have := HK1.out; omega⟩, ⟨by repeat (first | (with_reducible first | exact HB.out | apply lA_ | apply lN_ | apply lD_) | exact HB.out)⟩⟩
   rw [if_neg c3] at H
   have c3b0 : decide (x7_1 < a1) = false := decide_eq_false c3
   clear c3
   have HC4 := Aside0.mk H
   clear H
   go_upto_region 6 with (fail)
   go_cut [23] (fun v23 wc => ∃ (kq : Nat) (x23_3 : Bool), v23 = .bool x23_3 ∧ Aside0 (palaverref01_Number.j1 kq a0 a1 x23_3 = some (r1, r2)) ∧ Aside0 (kq ≤ k1) ∧ Aside0 (Below w.heap.size w wc))
   case first =>
    have H := HC4.out
    clear HC4
    by_cases c5 : a0 < 0
    ·rw [if_pos c5] at H
     have c5b0 : decide (a0 < 0) = true := decide_eq_true c5
     clear c5
     (first | rw [c5b0] | (simp only [i64_w, i32_w]; rw [c5b0]) | skip)
     have H' := Aside0.mk H
     clear H
     go_wp2
     go_meet
     case rel => exact ⟨_, (true), (by first | rfl | (simp; done) | (simp [*]; done) | exact congrArg Value.bool (nonempty_l _) | (refine congrArg (Value.int _) ?_; first | omega | (unfold wrap64; omega))), H', ⟨by have := HK1.out; first | omega | exact Nat.le_refl _⟩, ⟨by repeat (first | (with_reducible first | exact HB.out | apply lA_ | apply lN_ | apply lD_) | exact HB.out)⟩⟩
    rw [if_neg c5] at H
    have c5b0 : decide (a0 < 0) = false := decide_eq_false c5
    clear c5
    (first | rw [c5b0] | (simp only [i64_w, i32_w]; rw [c5b0]) | skip)
    have H' := Aside0.mk H
    clear H
    go_wp2
    go_meet
    case rel => exact ⟨_, (decide (a0 ≥ x6_1)), (by first | rfl | (simp; done) | (simp [*]; done) | exact congrArg Value.bool (nonempty_l _) | (refine congrArg (Value.int _) ?_; first | omega | (unfold wrap64; omega))), H', ⟨by have := HK1.out; first | omega | exact Nat.le_refl _⟩, ⟨by repeat (first | (with_reducible first | exact HB.out | apply lA_ | apply lN_ | apply lD_) | exact HB.out)⟩⟩
   case rest =>
    clear HC4
    (try clear p2); (try clear c3); (try clear c3b0); (try clear c4); (try clear c5); (try clear c5b0); (try clear p2)
    obtain ⟨kq, x23_3, rfl, HA, HJ3, HB⟩ := hcut
    cases kq with
    | zero => exact absurd HA.out (by simp [palaverref01_Number.j1])
    | succ kj3 =>
     have H := HA.out
     clear HA
     simp only [palaverref01_Number.j1] at H
     by_cases c6 : x23_3 = true
     ·subst c6
      have H1 : (some ((⟨#[]⟩ : ByteArray), false)) = some (r1, r2) := by rw [if_pos rfl] at H; exact H
      clear H
      have H := H1
      clear H1
      simp only [Option.some.injEq, Prod.mk.injEq] at H
      obtain ⟨rfl, rfl⟩ := H
      go_wp2
      go_ret2
      exact ⟨by first | rfl | (simp [errW_none, errW_some] <;> rfl) | (simp [*, errW_none, errW_some] <;> rfl), by repeat (first | (with_reducible first | exact HB.out | apply lA_ | apply lN_ | apply lD_) | exact HB.out)⟩
     replace c6 := Bool.eq_false_iff.mpr c6
     subst c6
     have H1 : (palaverref01_Number.l1 kj3 a0 a1 (⟨#[]⟩ : ByteArray) 0) = some (r1, r2) := by rw [if_neg (show ¬ (false = true) by decide)] at H; exact H
     clear H
     have H := H1
     clear H1
     have H' := Aside0.mk H
     clear H
     go_wp2
     go_loopg [0, 8, 9] kj3 (fun kq v0 v8 v9 w' => ∃ (x0_3 : Int) (x8_3 : ByteArray) (x9_3 : Int), v0 = .int .i64 x0_3 ∧ v8 = .string x8_3 ∧ v9 = .int .i64 x9_3 ∧ Aside0 (palaverref01_Number.l1 kq x0_3 a1 x8_3 x9_3 = some (r1, r2)) ∧ Aside0 (kq ≤ kj3) ∧ Aside0 (Below w.heap.size w w'))
     case atStart => exact ⟨(a0), ((⟨#[]⟩ : ByteArray)), (0), (by first | rfl | (simp; done) | (simp [*]; done) | exact congrArg Value.bool (nonempty_l _) | (refine congrArg (Value.int _) ?_; first | omega | (unfold wrap64; omega))), (by first | rfl | (simp; done) | (simp [*]; done) | exact congrArg Value.bool (nonempty_l _) | (refine congrArg (Value.int _) ?_; first | omega | (unfold wrap64; omega))), (by first | rfl | (simp; done) | (simp [*]; done) | exact congrArg Value.bool (nonempty_l _) | (refine congrArg (Value.int _) ?_; first | omega | (unfold wrap64; omega))), H', ⟨Nat.le_refl _⟩, ⟨by repeat (first | (with_reducible first | exact HB.out | apply lA_ | apply lN_ | apply lD_) | exact HB.out)⟩⟩
     case round =>
      clear H'
      (try clear p2); (try clear c3); (try clear c3b0); (try clear c4); (try clear c5); (try clear c5b0); (try clear c6); (try clear p6); (try clear p2)
      obtain ⟨x0_3, x8_3, x9_3, rfl, rfl, rfl, HA, HK3, HB⟩ := hrel
      cases gk with
      | zero => exact absurd HA.out (by simp [palaverref01_Number.l1])
      | succ k3 =>
       have H := HA.out
       clear HA
       simp only [palaverref01_Number.l1] at H
       by_cases c7 : x9_3 < a1
       ·rw [if_pos c7] at H
        have c7b0 : decide (x9_3 < a1) = true := decide_eq_true c7
        clear c7
        obtain ⟨y239, hy239⟩ : ∃ y_ : List Int, y_ = (([(Int.tmod x0_3 256) % 256] : List Int)) := ⟨_, rfl⟩
        replace H : (if (strOfNums y239).size + x8_3.size ≤ 9223372036854775807 then (palaverref01_Number.l1 k3 (wrap64 (Int.tdiv x0_3 256)) a1 ((strOfNums y239) ++ x8_3) (wrap64 (x9_3 + 1))) else (none)) = some (r1, r2) := by first | (rw [hy239]; with_reducible exact H) | (have H2_ := (Option.bind_some _ _).symm.trans H; rw [hy239]; with_reducible exact H2_) | (have H2_ := (Option.bind_some _ _).symm.trans H; with_reducible exact H2_) | with_reducible exact H | (rw [hy239]; exact H) | exact H
        have Ny239 := Aside0.mk hy239
        clear hy239
        by_cases c8 : (strOfNums y239).size + x8_3.size ≤ 9223372036854775807
        rotate_left
        ·rw [if_neg c8] at H
         exact absurd H (by simp)
        rw [if_pos c8] at H
        have c8b0 := eq_true c8
        have c8b1 : decide ((strOfNums y239).size + x8_3.size ≤ 9223372036854775807) = true := decide_eq_true c8
        try have c8b2 : (9223372036854775807 < (strOfNums y239).size + x8_3.size) = False := eq_false (Nat.not_lt.2 c8)
        have H' := Aside0.mk H
        clear H
        go_wp2_with (first | ((with_reducible refine gate_dst (N := 32) rfl ?_); refine Kd.R_lit (Kd.int .u8) _ 5 ?hg (N := 32) ?hd (xs := ([(Int.tmod x0_3 256) % 256] : List Int)) (inner := [.int .u8 ((Int.tmod x0_3 256) % 256)]) (ok := fun _ => True) (okp := fun _ => True) ?hr ?hp (fun _ hk => hk) trivial (Below.refl _ _) (Nat.le_refl _) (by simp) ?_; (case hd => rfl); (case hg => rfl); (case hr => first | (go_simp; done) | (go_simp; rfl)); (case hp => exact (Reps.one (show Kd.M (Kd.int .u8) _ _ _ ((Int.tmod x0_3 256) % 256) [.int .u8 ((Int.tmod x0_3 256) % 256)] from rfl) (Reps.none _ _))); intro v240 w9 ho10 hb hg_ hnew_; clear hg_ hnew_; (first | rw [← Ny239.out] at ho10 | (simp only [Int.reduceToNat] at ho10; rw [← Ny239.out] at ho10)); have n0_ := Aside0.mk (Kd.R_lower ho10 (below_size (by repeat (first | (with_reducible first | exact HB.out | apply lA_ | apply lN_ | apply lD_) | exact HB.out)))); have n1_ := Aside0.mk (below_step (by repeat (first | (with_reducible first | exact HB.out | apply lA_ | apply lN_ | apply lD_) | exact HB.out)) hb); clear HB; have HO241 := n0_; have HB := n1_; clear n0_ n1_; clear hb ho10; have hcv11 := own_string (P := Tryd.prog) Tryd.underlying42 Tryd.underlying5 Tryd.underlying9 (Kd.own_of_R HO241.out)))
        go_roundg k3
        case measure => have := HK1.out; have := HJ3.out; have := HK3.out; omega
        case rel => exact ⟨(wrap64 (Int.tdiv x0_3 256)), ((strOfNums y239) ++ x8_3), (wrap64 (x9_3 + 1)), (by first | rfl | (simp; done) | (simp [*]; done) | exact congrArg Value.bool (nonempty_l _) | (refine congrArg (Value.int _) ?_; first | omega | (unfold wrap64; omega))), (by first | rfl | (simp; done) | (simp [*]; done) | exact congrArg Value.bool (nonempty_l _) | (refine congrArg (Value.int _) ?_; first | omega | (unfold wrap64; omega))), (by first | rfl | (simp; done) | (simp [*]; done) | exact congrArg Value.bool (nonempty_l _) | (refine congrArg (Value.int _) ?_; first | omega | (unfold wrap64; omega))), H', ⟨by have := HK1.out; have := HJ3.out; have := HK3.out; omega⟩, ⟨by repeat (first | (with_reducible first | exact HB.out | apply lA_ | apply lN_ | apply lD_) | exact HB.out)⟩⟩
       rw [if_neg c7] at H
       have c7b0 : decide (x9_3 < a1) = false := decide_eq_false c7
       clear c7
       simp only [Option.some.injEq, Prod.mk.injEq] at H
       obtain ⟨rfl, rfl⟩ := H
       go_wp2
       go_ret2
       exact ⟨by first | rfl | (simp [errW_none, errW_some] <;> rfl) | (simp [*, errW_none, errW_some] <;> rfl), by repeat (first | (with_reducible first | exact HB.out | apply lA_ | apply lN_ | apply lD_) | exact HB.out)⟩

/-! ### palaverref02_Input: function 54 -/
def palaverref02_Input.l0 : Nat → List ByteArray → List Int → Int → Option (ByteArray)
 | 0, _, _, _ => none
 | k + 1, x1, x5, x6 => if x6 < (x1.length : Int) then (if 0 ≤ x6 then ((palaverref01_Number.f k ((rdOf ByteArray.empty x1 x6).size : Int) 4).bind fun bt246 => (if x5.length + bt246.1.size < 140737488355328 then ((some (x5 ++ bytesOf bt246.1 : List Int)).bind fun y248 => (if y248.length + (rdOf ByteArray.empty x1 x6).size < 140737488355328 then (palaverref02_Input.l0 k x1 (y248 ++ bytesOf (rdOf ByteArray.empty x1 x6)) (wrap64 (x6 + 1))) else (none))) else (none))) else (none)) else (some (strOfNums x5))
def palaverref02_Input.f (k : Nat) (a0 : Int) (l1 : List ByteArray) : Option (ByteArray) := palaverref02_Input.l0 k l1 (([(Int.tmod (wrap64 ((Int.tmod a0 256) + 256)) 256) % 256] : List Int)) 0
theorem palaverref02_Input.mono_l : ∀ k, (∀ y0 y1 y2, LeO (palaverref02_Input.l0 k y0 y1 y2) (palaverref02_Input.l0 (k + 1) y0 y1 y2))
 | 0 => fun _ _ _ r h => by simp [palaverref02_Input.l0] at h
 | k + 1 => by
  have ih0 := palaverref02_Input.mono_l k
  ·intro y0 y1 y2
   unfold palaverref02_Input.l0
   repeat' first
   | (with_reducible exact ih0 _ _ _)
   | (with_reducible exact palaverref01_Number.mono _ _ _)
   | (with_reducible exact LeO.refl _)
   | (with_reducible exact LeO.none _)
   | (with_reducible refine LeO.ite ?_ ?_)
   | (with_reducible refine LeO.bind ?_ (fun _ => ?_))
   | exact ih0 _ _ _
   | exact palaverref01_Number.mono _ _ _
   | exact LeO.none _
   | refine LeO.ite ?_ ?_
   | refine LeO.bind ?_ (fun _ => ?_)
theorem palaverref02_Input.mono : ∀ a0 a1 k, LeO (palaverref02_Input.f k a0 a1) (palaverref02_Input.f (k + 1) a0 a1) := by
 intro a0 a1 k
 have ih0 := palaverref02_Input.mono_l k
 unfold palaverref02_Input.f
 repeat' first
  | (with_reducible exact ih0 _ _ _)
  | (with_reducible exact palaverref01_Number.mono _ _ _)
  | (with_reducible exact LeO.refl _)
  | (with_reducible exact LeO.none _)
  | (with_reducible refine LeO.ite ?_ ?_)
  | (with_reducible refine LeO.bind ?_ (fun _ => ?_))
  | exact ih0 _ _ _
  | exact palaverref01_Number.mono _ _ _
  | exact LeO.none _
  | refine LeO.ite ?_ ?_
  | refine LeO.bind ?_ (fun _ => ?_)
set_option maxHeartbeats 64000000 in
set_option maxRecDepth 100000 in
theorem palaverref02_Input.calls (k : Nat) (a0 : Int) (A1 : Option Addr) (c1 : Nat) (l1 : List ByteArray) (r : ByteArray) (w : World) (hr1 : Kd.C Kd.string w A1 l1.length l1) (hc1 : l1.length ≤ c1) (h : palaverref02_Input.f k a0 l1 = some r) :
 Calls Tryd.prog 54 #[.int .i64 a0, .slice A1 l1.length c1] w fun e w' => e = .returned (.string r) ∧ Below w.heap.size w w' := by
 have HR1 := Aside0.mk hr1
 have HC1 := Aside0.mk hc1
 clear hr1 hc1
 have HB := Aside0.mk (Below.refl w.heap.size w)
 have H : (palaverref02_Input.l0 k l1 (([(Int.tmod (wrap64 ((Int.tmod a0 256) + 256)) 256) % 256] : List Int)) 0) = some r := h
 clear h
 obtain ⟨y242, hy242⟩ : ∃ y_ : List Int, y_ = (([(Int.tmod (wrap64 ((Int.tmod a0 256) + 256)) 256) % 256] : List Int)) := ⟨_, rfl⟩
 replace H : (palaverref02_Input.l0 k l1 y242 0) = some r := by first | (rw [hy242]; with_reducible exact H) | (have H2_ := (Option.bind_some _ _).symm.trans H; rw [hy242]; with_reducible exact H2_) | (have H2_ := (Option.bind_some _ _).symm.trans H; with_reducible exact H2_) | with_reducible exact H | (rw [hy242]; exact H) | exact H
 have Ny242 := Aside0.mk hy242
 clear hy242
 have H' := Aside0.mk H
 clear H
 go_enter Tryd.func54, Tryd.ntmps54
 go_wp2_with (first | ((with_reducible refine gate_dst (N := 14) rfl ?_); refine Kd.R_lit (Kd.int .u8) _ 5 ?hg (N := 14) ?hd (xs := ([(Int.tmod (wrap64 ((Int.tmod a0 256) + 256)) 256) % 256] : List Int)) (inner := [.int .u8 ((Int.tmod (wrap64 ((Int.tmod a0 256) + 256)) 256) % 256)]) (ok := fun _ => True) (okp := fun _ => True) ?hr ?hp (fun _ hk => hk) trivial (Below.refl _ _) (Nat.le_refl _) (by simp) ?_; (case hd => rfl); (case hg => rfl); (case hr => first | (go_simp; done) | (go_simp; rfl)); (case hp => exact (Reps.one (show Kd.M (Kd.int .u8) _ _ _ ((Int.tmod (wrap64 ((Int.tmod a0 256) + 256)) 256) % 256) [.int .u8 ((Int.tmod (wrap64 ((Int.tmod a0 256) + 256)) 256) % 256)] from rfl) (Reps.none _ _))); intro v243 w3 ho4 hb hg_ hnew_; clear hg_ hnew_; (first | rw [← Ny242.out] at ho4 | (simp only [Int.reduceToNat] at ho4; rw [← Ny242.out] at ho4)); have n0_ := Aside0.mk (Kd.R_lower ho4 (below_size (by repeat (first | (with_reducible first | exact HB.out | apply lA_ | apply lN_ | apply lD_) | exact HB.out)))); have n1_ := Aside0.mk (below_step (by repeat (first | (with_reducible first | exact HB.out | apply lA_ | apply lN_ | apply lD_) | exact HB.out)) hb); clear HB; have HO244 := n0_; have HB := n1_; clear n0_ n1_; clear hb ho4))
 go_loopg [5, 6] k (fun kq v5 v6 w' => ∃ (x5_1 : List Int) (x6_1 : Int), v6 = .int .i64 x6_1 ∧ Aside0 (palaverref02_Input.l0 kq l1 x5_1 x6_1 = some r) ∧ Aside0 (kq ≤ k) ∧ Aside0 (Kd.R (Kd.int .u8) 5 w' w.heap.size (fun _ => True) v5 x5_1) ∧ Aside0 (Below w.heap.size w w'))
 case atStart => exact ⟨(y242), (0), (by first | rfl | (simp; done) | (simp [*]; done) | exact congrArg Value.bool (nonempty_l _) | (refine congrArg (Value.int _) ?_; first | omega | (unfold wrap64; omega))), H', ⟨Nat.le_refl _⟩, ⟨by (with_reducible repeat (first | apply Kd.R_alloc | apply Kd.R_drewN | apply Kd.R_drew)); exact HO244.out⟩, ⟨by repeat (first | (with_reducible first | exact HB.out | apply lA_ | apply lN_ | apply lD_) | exact HB.out)⟩⟩
 case round =>
  clear H'
  (try clear c1); (try clear p2)
  obtain ⟨x5_1, x6_1, rfl, HA, HK1, HO_5, HB⟩ := hrel
  cases gk with
  | zero => exact absurd HA.out (by simp [palaverref02_Input.l0])
  | succ k1 =>
   have H := HA.out
   clear HA
   simp only [palaverref02_Input.l0] at H
   by_cases c5 : x6_1 < (l1.length : Int)
   ·rw [if_pos c5] at H
    have c5b0 : decide (x6_1 < (l1.length : Int)) = true := decide_eq_true c5
    clear c5
    by_cases c6 : 0 ≤ x6_1
    rotate_left
    ·rw [if_neg c6] at H
     exact absurd H (by simp)
    rw [if_pos c6] at H
    have c6b0 : decide (0 ≤ x6_1) = true := decide_eq_true c6
    clear c6
    replace H := ob_ H
    obtain ⟨⟨t246, t247⟩, A70, H⟩ := H
    replace H : (if x5_1.length + t246.size < 140737488355328 then ((some (x5_1 ++ bytesOf t246 : List Int)).bind fun y248 => (if y248.length + (rdOf ByteArray.empty l1 x6_1).size < 140737488355328 then (palaverref02_Input.l0 k1 l1 (y248 ++ bytesOf (rdOf ByteArray.empty l1 x6_1)) (wrap64 (x6_1 + 1))) else (none))) else (none)) = some r := H
    have A7 := Aside0.mk A70
    clear A70
    by_cases c8 : x5_1.length + t246.size < 140737488355328
    rotate_left
    ·rw [if_neg c8] at H
     exact absurd H (by simp)
    rw [if_pos c8] at H
    have LMc8 := Aside0.mk c8
    clear c8
    obtain ⟨y248, hy248⟩ : ∃ y_ : List Int, y_ = (x5_1 ++ bytesOf t246) := ⟨_, rfl⟩
    replace H : (if y248.length + (rdOf ByteArray.empty l1 x6_1).size < 140737488355328 then (palaverref02_Input.l0 k1 l1 (y248 ++ bytesOf (rdOf ByteArray.empty l1 x6_1)) (wrap64 (x6_1 + 1))) else (none)) = some r := by first | (rw [hy248]; with_reducible exact H) | (have H2_ := (Option.bind_some _ _).symm.trans H; rw [hy248]; with_reducible exact H2_) | (have H2_ := (Option.bind_some _ _).symm.trans H; with_reducible exact H2_) | with_reducible exact H | (rw [hy248]; exact H) | exact H
    have Ny248 := Aside0.mk hy248
    clear hy248
    by_cases c9 : y248.length + (rdOf ByteArray.empty l1 x6_1).size < 140737488355328
    rotate_left
    ·rw [if_neg c9] at H
     exact absurd H (by simp)
    rw [if_pos c9] at H
    have LMc9 := Aside0.mk c9
    clear c9
    obtain ⟨y252, hy252⟩ : ∃ y_ : List Int, y_ = (y248 ++ bytesOf (rdOf ByteArray.empty l1 x6_1)) := ⟨_, rfl⟩
    replace H : (palaverref02_Input.l0 k1 l1 y252 (wrap64 (x6_1 + 1))) = some r := by first | (rw [hy252]; with_reducible exact H) | (have H2_ := (Option.bind_some _ _).symm.trans H; rw [hy252]; with_reducible exact H2_) | (have H2_ := (Option.bind_some _ _).symm.trans H; with_reducible exact H2_) | with_reducible exact H | (rw [hy252]; exact H) | exact H
    have Ny252 := Aside0.mk hy252
    clear hy252
    have H' := Aside0.mk H
    clear H
    have p245 : 0 ≤ (x6_1 : Int) := od_ (by first | (with_reducible assumption) | assumption)
    have q245 : x6_1 < (l1.length : Int) := od_ (by first | (with_reducible assumption) | assumption)
    obtain ⟨ad245, e245, hx245_0⟩ := Kd.at_string HR1.out x6_1 p245 q245
    cases e245
    replace hx245_0 := (HB.out.cell (World.block_lt_of_cell? w _ hx245_0)).trans hx245_0
    replace p245 := eq_true p245
    replace q245 := eq_true q245
    go_wp2_with (first | ((with_reducible refine gate_callee (f := 47) rfl ?_); refine goesL_ (some 27) rfl rfl Tryd.func47 (by kernel_rfl) rfl #[.int .i64 ((rdOf ByteArray.empty l1 x6_1).size : Int), .int .i64 4] rfl (by (try simp only [gm_]); first | done | rfl | (simp only [gl_]; rfl)) ?_; (with_reducible refine (palaverref01_Number.calls k1 ((rdOf ByteArray.empty l1 x6_1).size : Int) 4 t246 t247 _ A7.out).mono ?_); rintro e w10 ⟨rfl, hb⟩; refine ⟨_, rfl, ?_⟩; have n0_ := Aside0.mk (Kd.R_below (by (with_reducible repeat (first | apply Kd.R_alloc | apply Kd.R_drewN | apply Kd.R_drew)); exact HO_5.out) hb); have n1_ := Aside0.mk (below_step (by repeat (first | (with_reducible first | exact HB.out | apply lA_ | apply lN_ | apply lD_) | exact HB.out)) hb); clear HO_5; clear HB; have HO_5 := n0_; have HB := n1_; clear n0_ n1_; (try clear hb); (try clear hb2); (try clear hk); (try clear hi)) | (at_builtin; refine print_append_str (w0 := w) w.heap.size rfl (.tmp 30) _ 42 9 5 rfl Tryd.underlying42 Tryd.underlying9 info5 u5 x5_1 t246 rfl rfl ?aO ?aB ?aS ?aL ?_; (case aB => exact (by repeat (first | (with_reducible first | exact HB.out | apply lA_ | apply lN_ | apply lD_) | exact HB.out))); (case aO => exact (Kd.own_of_R (by (with_reducible repeat (first | apply Kd.R_alloc | apply Kd.R_drewN | apply Kd.R_drew)); exact HO_5.out))); (case aS => exact (below_size (by repeat (first | (with_reducible first | exact HB.out | apply lA_ | apply lN_ | apply lD_) | exact HB.out)))); (case aL => have := LMc8.out; omega); intro v249 w11 ho0 hb hg; have ho := Kd.R_of_own (h1 := fun _ => rfl) (ok := fun _ => True) ho0 (fun _ _ => trivial); clear ho0; have hat := True.intro; rw [← Ny248.out] at ho; change Kd.R (Kd.int .u8) 5 w11 w.heap.size (fun _ => True) v249 y248 at ho; have n0_ := Aside0.mk (hb); have n1_ := Aside0.mk (ho); clear HB; clear HO_5; have HB := n0_; have HO250 := n1_; clear n0_ n1_; clear ho hb hg hat; have p251 : 0 ≤ (x6_1 : Int) := od_ (by first | (with_reducible assumption) | assumption); have q251 : x6_1 < (l1.length : Int) := od_ (by first | (with_reducible assumption) | assumption); obtain ⟨ad251, e251, hx251_0⟩ := Kd.at_string HR1.out x6_1 p251 q251; obtain rfl : ad245 = ad251 := (by injection e251); replace hx251_0 := (HB.out.cell (World.block_lt_of_cell? w _ hx251_0)).trans hx251_0; replace p251 := eq_true p251; replace q251 := eq_true q251) | (at_builtin; refine print_append_str (w0 := w) w.heap.size rfl (.tmp 33) _ 42 9 5 rfl Tryd.underlying42 Tryd.underlying9 info5 v249 y248 (rdOf ByteArray.empty l1 x6_1) rfl rfl ?aO ?aB ?aS ?aL ?_; (case aB => exact (by repeat (first | (with_reducible first | exact HB.out | apply lA_ | apply lN_ | apply lD_) | exact HB.out))); (case aO => exact (Kd.own_of_R (by (with_reducible repeat (first | apply Kd.R_alloc | apply Kd.R_drewN | apply Kd.R_drew)); exact HO250.out))); (case aS => exact (below_size (by repeat (first | (with_reducible first | exact HB.out | apply lA_ | apply lN_ | apply lD_) | exact HB.out)))); (case aL => have := LMc9.out; omega); intro v253 w12 ho0 hb hg; have ho := Kd.R_of_own (h1 := fun _ => rfl) (ok := fun _ => True) ho0 (fun _ _ => trivial); clear ho0; have hat := True.intro; rw [← Ny252.out] at ho; change Kd.R (Kd.int .u8) 5 w12 w.heap.size (fun _ => True) v253 y252 at ho; have n0_ := Aside0.mk (hb); have n1_ := Aside0.mk (ho); clear HB; clear HO250; have HB := n0_; have HO254 := n1_; clear n0_ n1_; clear ho hb hg hat))
    go_roundg k1
    case measure => have := HK1.out; omega
    case rel => exact ⟨(y252), (wrap64 (x6_1 + 1)), (by first | rfl | (simp; done) | (simp [*]; done) | exact congrArg Value.bool (nonempty_l _) | (refine congrArg (Value.int _) ?_; first | omega | (unfold wrap64; omega))), H', ⟨by have := HK1.out; omega⟩, ⟨by (with_reducible repeat (first | apply Kd.R_alloc | apply Kd.R_drewN | apply Kd.R_drew)); exact HO254.out⟩, ⟨by repeat (first | (with_reducible first | exact HB.out | apply lA_ | apply lN_ | apply lD_) | exact HB.out)⟩⟩
   rw [if_neg c5] at H
   have c5b0 : decide (x6_1 < (l1.length : Int)) = false := decide_eq_false c5
   clear c5
   obtain rfl := Option.some.inj H
   have hcv13 := own_string (P := Tryd.prog) Tryd.underlying42 Tryd.underlying5 Tryd.underlying9 (Kd.own_of_R HO_5.out)
   go_wp2
   go_ret
   exact ⟨by first | rfl | (simp [errW_none, errW_some] <;> rfl) | (simp [*, errW_none, errW_some] <;> rfl), by repeat (first | (with_reducible first | exact HB.out | apply lA_ | apply lN_ | apply lD_) | exact HB.out)⟩

/-! ### palaverref02_Tag: function 37 -/
def palaverref02_Tag.f (k : Nat) (a0 : Int) (l1 : List ByteArray) : Option (ByteArray) := (palaverref02_Input.f k a0 l1).bind fun t255 => ((palaverref02_Sum.f k t255).bind fun t256 => (some t256))
theorem palaverref02_Tag.mono : ∀ a0 a1 k, LeO (palaverref02_Tag.f k a0 a1) (palaverref02_Tag.f (k + 1) a0 a1) := by
 intro a0 a1 k
 unfold palaverref02_Tag.f
 repeat' first
  | (with_reducible exact palaverref02_Input.mono _ _ _)
  | (with_reducible exact palaverref02_Sum.mono _ _)
  | (with_reducible exact LeO.refl _)
  | (with_reducible exact LeO.none _)
  | (with_reducible refine LeO.ite ?_ ?_)
  | (with_reducible refine LeO.bind ?_ (fun _ => ?_))
  | exact palaverref02_Input.mono _ _ _
  | exact palaverref02_Sum.mono _ _
  | exact LeO.none _
  | refine LeO.ite ?_ ?_
  | refine LeO.bind ?_ (fun _ => ?_)
set_option maxHeartbeats 64000000 in
set_option maxRecDepth 100000 in
theorem palaverref02_Tag.calls (k : Nat) (a0 : Int) (A1 : Option Addr) (c1 : Nat) (l1 : List ByteArray) (r : ByteArray) (w : World) (hr1 : Kd.C Kd.string w A1 l1.length l1) (hc1 : l1.length ≤ c1) (h : palaverref02_Tag.f k a0 l1 = some r) :
 Calls Tryd.prog 37 #[.int .i64 a0, .slice A1 l1.length c1] w fun e w' => e = .returned (.string r) ∧ Below w.heap.size w w' := by
 have HR1 := Aside0.mk hr1
 have HC1 := Aside0.mk hc1
 clear hr1 hc1
 have HB := Aside0.mk (Below.refl w.heap.size w)
 have H : ((palaverref02_Input.f k a0 l1).bind fun t255 => ((palaverref02_Sum.f k t255).bind fun t256 => (some t256))) = some r := h
 clear h
 replace H := ob_ H
 obtain ⟨t255, A30, H⟩ := H
 replace H : ((palaverref02_Sum.f k t255).bind fun t256 => (some t256)) = some r := H
 have A3 := Aside0.mk A30
 clear A30
 replace H := ob_ H
 obtain ⟨t256, A40, H⟩ := H
 replace H : (some t256) = some r := H
 have A4 := Aside0.mk A40
 clear A40
 obtain rfl := Option.some.inj H
 go_enter Tryd.func37, Tryd.ntmps37
 go_wp2_with (first | ((with_reducible refine gate_callee (f := 54) rfl ?_); refine goesL_ (some 7) rfl rfl Tryd.func54 (by kernel_rfl) rfl #[.int .i64 a0, .slice A1 l1.length c1] rfl (by (try simp only [gm_]); first | done | rfl | (simp only [gl_]; rfl)) ?_; (with_reducible refine (palaverref02_Input.calls k a0 _ _ l1 t255 _ ?side1 ?side2 A3.out).mono ?_); (case side1 => repeat (first | exact HR1.out | (with_reducible refine Kd.C_alloc ?_ _) | (with_reducible refine Kd.C_drewN ?_ _) | (with_reducible refine Kd.C_drew ?_))); (case side2 => exact HC1.out); rintro e w5 ⟨rfl, hb⟩; refine ⟨_, rfl, ?_⟩; have n0_ := Aside0.mk (below_step (by repeat (first | (with_reducible first | exact HB.out | apply lA_ | apply lN_ | apply lD_) | exact HB.out)) hb); clear HB; have HB := n0_; clear n0_; (try clear hb); (try clear hb2); (try clear hk); (try clear hi)) | ((with_reducible refine gate_callee (f := 53) rfl ?_); refine goesL_ (some 8) rfl rfl Tryd.func53 (by kernel_rfl) rfl #[.string t255] rfl (by (try simp only [gm_]); first | done | rfl | (simp only [gl_]; rfl)) ?_; (with_reducible refine (palaverref02_Sum.calls k t255 t256 _ A4.out).mono ?_); rintro e w6 ⟨rfl, hb⟩; refine ⟨_, rfl, ?_⟩; have n0_ := Aside0.mk (below_step (by repeat (first | (with_reducible first | exact HB.out | apply lA_ | apply lN_ | apply lD_) | exact HB.out)) hb); clear HB; have HB := n0_; clear n0_; (try clear hb); (try clear hb2); (try clear hk); (try clear hi)))
 go_ret
 exact ⟨by first | rfl | (simp [errW_none, errW_some] <;> rfl) | (simp [*, errW_none, errW_some] <;> rfl), by repeat (first | (with_reducible first | exact HB.out | apply lA_ | apply lN_ | apply lD_) | exact HB.out)⟩

/-! ### palaverref06_Id: function 21 -/
def palaverref06_Id.f (k : Nat) (a0 : ByteArray) : Option (ByteArray) := (palaverref02_Tag.f k 7 (([a0] : List ByteArray))).bind fun t260 => (some t260)
theorem palaverref06_Id.mono : ∀ a0 k, LeO (palaverref06_Id.f k a0) (palaverref06_Id.f (k + 1) a0) := by
 intro a0 k
 unfold palaverref06_Id.f
 repeat' first
  | (with_reducible exact palaverref02_Tag.mono _ _ _)
  | (with_reducible exact LeO.refl _)
  | (with_reducible exact LeO.none _)
  | (with_reducible refine LeO.ite ?_ ?_)
  | (with_reducible refine LeO.bind ?_ (fun _ => ?_))
  | exact palaverref02_Tag.mono _ _ _
  | exact LeO.none _
  | refine LeO.ite ?_ ?_
  | refine LeO.bind ?_ (fun _ => ?_)
set_option maxHeartbeats 64000000 in
set_option maxRecDepth 100000 in
theorem palaverref06_Id.calls (k : Nat) (a0 : ByteArray) (r : ByteArray) (w : World) (h : palaverref06_Id.f k a0 = some r) :
 Calls Tryd.prog 21 #[.string a0] w fun e w' => e = .returned (.string r) ∧ Below w.heap.size w w' := by
 have HB := Aside0.mk (Below.refl w.heap.size w)
 have H : ((palaverref02_Tag.f k 7 (([a0] : List ByteArray))).bind fun t260 => (some t260)) = some r := h
 clear h
 obtain ⟨y257, hy257⟩ : ∃ y_ : List ByteArray, y_ = (([a0] : List ByteArray)) := ⟨_, rfl⟩
 replace H : ((palaverref02_Tag.f k 7 y257).bind fun t260 => (some t260)) = some r := by first | (rw [hy257]; with_reducible exact H) | (have H2_ := (Option.bind_some _ _).symm.trans H; rw [hy257]; with_reducible exact H2_) | (have H2_ := (Option.bind_some _ _).symm.trans H; with_reducible exact H2_) | with_reducible exact H | (rw [hy257]; exact H) | exact H
 have Ny257 := Aside0.mk hy257
 clear hy257
 replace H := ob_ H
 obtain ⟨t260, A20, H⟩ := H
 replace H : (some t260) = some r := H
 have A2 := Aside0.mk A20
 clear A20
 obtain rfl := Option.some.inj H
 go_enter Tryd.func21, Tryd.ntmps21
 go_wp2_with (first | ((with_reducible refine gate_dst (N := 4) rfl ?_); refine Kd.R_lit Kd.string _ 9 ?hg (N := 4) ?hd (xs := ([a0] : List ByteArray)) (inner := [.string a0]) (ok := fun _ => True) (okp := fun _ => True) ?hr ?hp (fun _ hk => hk) trivial (Below.refl _ _) (Nat.le_refl _) (by simp) ?_; (case hd => rfl); (case hg => rfl); (case hr => first | (go_simp; done) | (go_simp; rfl)); (case hp => exact (Reps.one (show Kd.M Kd.string _ _ _ a0 [.string a0] from rfl) (Reps.none _ _))); intro v258 w3 ho4 hb hg_ hnew_; clear hg_ hnew_; (first | rw [← Ny257.out] at ho4 | (simp only [Int.reduceToNat] at ho4; rw [← Ny257.out] at ho4)); have n0_ := Aside0.mk (Kd.R_lower ho4 (below_size (by repeat (first | (with_reducible first | exact HB.out | apply lA_ | apply lN_ | apply lD_) | exact HB.out)))); have n1_ := Aside0.mk (below_step (by repeat (first | (with_reducible first | exact HB.out | apply lA_ | apply lN_ | apply lD_) | exact HB.out)) hb); clear HB; have HO259 := n0_; have HB := n1_; clear n0_ n1_; clear hb ho4; obtain ⟨Ao5, co5, eo5⟩ := Kd.R_slice HO259.out; subst eo5) | ((with_reducible refine gate_callee (f := 37) rfl ?_); refine goesL_ (some 5) rfl rfl Tryd.func37 (by kernel_rfl) rfl #[.int .i64 7, .slice Ao5 y257.length co5] rfl (by (try simp only [gm_]); first | done | rfl | (simp only [gl_]; rfl)) ?_; (with_reducible refine (palaverref02_Tag.calls k 7 _ _ y257 t260 _ ?side1 ?side2 A2.out).mono ?_); (case side1 => repeat (first | exact (Kd.R_reads' HO259.out).2.2 | (with_reducible refine Kd.C_alloc ?_ _) | (with_reducible refine Kd.C_drewN ?_ _) | (with_reducible refine Kd.C_drew ?_))); (case side2 => exact (Kd.R_reads' HO259.out).2.1); rintro e w6 ⟨rfl, hb⟩; refine ⟨_, rfl, ?_⟩; have n0_ := Aside0.mk (Kd.R_below (by (with_reducible repeat (first | apply Kd.R_alloc | apply Kd.R_drewN | apply Kd.R_drew)); exact HO259.out) hb); have n1_ := Aside0.mk (below_step (by repeat (first | (with_reducible first | exact HB.out | apply lA_ | apply lN_ | apply lD_) | exact HB.out)) hb); clear HO259; clear HB; have HO259 := n0_; have HB := n1_; clear n0_ n1_; (try clear hb); (try clear hb2); (try clear hk); (try clear hi)))
 go_ret
 exact ⟨by first | rfl | (simp [errW_none, errW_some] <;> rfl) | (simp [*, errW_none, errW_some] <;> rfl), by repeat (first | (with_reducible first | exact HB.out | apply lA_ | apply lN_ | apply lD_) | exact HB.out)⟩

/-! ### palaverlaw06_awake: function 10 -/
def palaverlaw06_awake.l0 : Nat → ByteArray → Option (Bool)
 | 0, _ => none
 | k + 1, x1 => if (x1.size : Int) < 32 then (if x1.size + 1 ≤ 9223372036854775807 then (palaverlaw06_awake.l0 k (x1 ++ (⟨#[97]⟩ : ByteArray))) else (none)) else ((event_Encode.f k 1 x1 ([] : List ByteArray) (⟨#[114]⟩ : ByteArray) (⟨#[]⟩ : ByteArray)).bind fun bt261 => (if bt261.2 = 0 then (if 3 + x1.size ≤ 9223372036854775807 then (if ((⟨#[1, 0, 32]⟩ : ByteArray) ++ x1).size + 6 ≤ 9223372036854775807 then (if bt261.1.toList = (((⟨#[1, 0, 32]⟩ : ByteArray) ++ x1) ++ (⟨#[0, 0, 1, 114, 0, 0]⟩ : ByteArray)).toList then ((event_Id.f k (⟨#[120]⟩ : ByteArray)).bind fun t263 => ((palaverref06_Id.f k (⟨#[120]⟩ : ByteArray)).bind fun t264 => (some (t263.toList == t264.toList)))) else (some false)) else (none)) else (none)) else (some false)))
def palaverlaw06_awake.f (k : Nat)  : Option (Bool) := palaverlaw06_awake.l0 k (⟨#[]⟩ : ByteArray)
theorem palaverlaw06_awake.mono_l : ∀ k, (∀ y0, LeO (palaverlaw06_awake.l0 k y0) (palaverlaw06_awake.l0 (k + 1) y0))
 | 0 => fun _ r h => by simp [palaverlaw06_awake.l0] at h
 | k + 1 => by
  have ih0 := palaverlaw06_awake.mono_l k
  ·intro y0
   unfold palaverlaw06_awake.l0
   repeat' first
   | (with_reducible exact ih0 _)
   | (with_reducible exact event_Encode.mono _ _ _ _ _ _)
   | (with_reducible exact event_Id.mono _ _)
   | (with_reducible exact palaverref06_Id.mono _ _)
   | (with_reducible exact LeO.refl _)
   | (with_reducible exact LeO.none _)
   | (with_reducible refine LeO.ite ?_ ?_)
   | (with_reducible refine LeO.bind ?_ (fun _ => ?_))
   | exact ih0 _
   | exact event_Encode.mono _ _ _ _ _ _
   | exact event_Id.mono _ _
   | exact palaverref06_Id.mono _ _
   | exact LeO.none _
   | refine LeO.ite ?_ ?_
   | refine LeO.bind ?_ (fun _ => ?_)
theorem palaverlaw06_awake.mono : ∀ k, LeO (palaverlaw06_awake.f k ) (palaverlaw06_awake.f (k + 1) ) := by
 intro  k
 have ih0 := palaverlaw06_awake.mono_l k
 unfold palaverlaw06_awake.f
 repeat' first
  | (with_reducible exact ih0 _)
  | (with_reducible exact event_Encode.mono _ _ _ _ _ _)
  | (with_reducible exact event_Id.mono _ _)
  | (with_reducible exact palaverref06_Id.mono _ _)
  | (with_reducible exact LeO.refl _)
  | (with_reducible exact LeO.none _)
  | (with_reducible refine LeO.ite ?_ ?_)
  | (with_reducible refine LeO.bind ?_ (fun _ => ?_))
  | exact ih0 _
  | exact event_Encode.mono _ _ _ _ _ _
  | exact event_Id.mono _ _
  | exact palaverref06_Id.mono _ _
  | exact LeO.none _
  | refine LeO.ite ?_ ?_
  | refine LeO.bind ?_ (fun _ => ?_)
set_option maxHeartbeats 64000000 in
set_option maxRecDepth 100000 in
theorem palaverlaw06_awake.calls (k : Nat)  (r : Bool) (w : World) (hrG : Kd.C (Kd.int .u32) w (some ⟨0, 0, none⟩) keysL.length keysL) (h : palaverlaw06_awake.f k  = some r) :
 Calls Tryd.prog 10 #[] w fun e w' => e = .returned (.bool r) ∧ Below w.heap.size w w' := by
 have hu24 := Tryd.underlying24
 have HRG := Aside0.mk hrG
 clear hrG
 have HB := Aside0.mk (Below.refl w.heap.size w)
 have H : (palaverlaw06_awake.l0 k (⟨#[]⟩ : ByteArray)) = some r := h
 clear h
 have H' := Aside0.mk H
 clear H
 go_enter Tryd.func10, Tryd.ntmps10
 go_wp2
 go_loopg [1] k (fun kq v1 w' => ∃ (x1_1 : ByteArray), v1 = .string x1_1 ∧ Aside0 (palaverlaw06_awake.l0 kq x1_1 = some r) ∧ Aside0 (kq ≤ k) ∧ Aside0 (Below w.heap.size w w'))
 case atStart => exact ⟨((⟨#[]⟩ : ByteArray)), (by first | rfl | (simp; done) | (simp [*]; done) | exact congrArg Value.bool (nonempty_l _) | (refine congrArg (Value.int _) ?_; first | omega | (unfold wrap64; omega))), H', ⟨Nat.le_refl _⟩, ⟨by repeat (first | (with_reducible first | exact HB.out | apply lA_ | apply lN_ | apply lD_) | exact HB.out)⟩⟩
 case round =>
  clear H'
  obtain ⟨x1_1, rfl, HA, HK1, HB⟩ := hrel
  cases gk with
  | zero => exact absurd HA.out (by simp [palaverlaw06_awake.l0])
  | succ k1 =>
   have H := HA.out
   clear HA
   simp only [palaverlaw06_awake.l0] at H
   by_cases c1 : (x1_1.size : Int) < 32
   ·rw [if_pos c1] at H
    have c1b0 : decide ((x1_1.size : Int) < 32) = true := decide_eq_true c1
    have c1b1 : decide (x1_1.size < 32) = true := decide_eq_true (by omega)
    clear c1
    by_cases c2 : x1_1.size + 1 ≤ 9223372036854775807
    rotate_left
    ·rw [if_neg c2] at H
     exact absurd H (by simp)
    rw [if_pos c2] at H
    have c2b0 := eq_true c2
    have c2b1 : decide (x1_1.size + 1 ≤ 9223372036854775807) = true := decide_eq_true c2
    try have c2b2 : (9223372036854775807 < x1_1.size + 1) = False := eq_false (Nat.not_lt.2 c2)
    have H' := Aside0.mk H
    clear H
    go_wp2
    go_roundg k1
    case measure => have := HK1.out; omega
    case rel => exact ⟨(x1_1 ++ (⟨#[97]⟩ : ByteArray)), (by first | rfl | (simp; done) | (simp [*]; done) | exact congrArg Value.bool (nonempty_l _) | (refine congrArg (Value.int _) ?_; first | omega | (unfold wrap64; omega))), H', ⟨by have := HK1.out; omega⟩, ⟨by repeat (first | (with_reducible first | exact HB.out | apply lA_ | apply lN_ | apply lD_) | exact HB.out)⟩⟩
   rw [if_neg c1] at H
   have c1b0 : decide ((x1_1.size : Int) < 32) = false := decide_eq_false c1
   have c1b1 : decide (x1_1.size < 32) = false := decide_eq_false (by omega)
   clear c1
   replace H := ob_ H
   obtain ⟨⟨t261, t262⟩, A30, H⟩ := H
   replace H : (if t262 = 0 then (if 3 + x1_1.size ≤ 9223372036854775807 then (if ((⟨#[1, 0, 32]⟩ : ByteArray) ++ x1_1).size + 6 ≤ 9223372036854775807 then (if t261.toList = (((⟨#[1, 0, 32]⟩ : ByteArray) ++ x1_1) ++ (⟨#[0, 0, 1, 114, 0, 0]⟩ : ByteArray)).toList then ((event_Id.f k1 (⟨#[120]⟩ : ByteArray)).bind fun t263 => ((palaverref06_Id.f k1 (⟨#[120]⟩ : ByteArray)).bind fun t264 => (some (t263.toList == t264.toList)))) else (some false)) else (none)) else (none)) else (some false)) = some r := H
   have A3 := Aside0.mk A30
   clear A30
   by_cases c4 : t262 = 0
   ·rw [if_pos c4] at H
    have c4b0 : (t262 == 0) = true := beq_iff_eq.mpr c4
    have c4b1 : (t262 != 0) = false := bne_eq_false_iff_eq.mpr c4
    clear c4
    by_cases c5 : 3 + x1_1.size ≤ 9223372036854775807
    rotate_left
    ·rw [if_neg c5] at H
     exact absurd H (by simp)
    rw [if_pos c5] at H
    have c5b0 := eq_true c5
    have c5b1 : decide (3 + x1_1.size ≤ 9223372036854775807) = true := decide_eq_true c5
    try have c5b2 : (9223372036854775807 < 3 + x1_1.size) = False := eq_false (Nat.not_lt.2 c5)
    by_cases c6 : ((⟨#[1, 0, 32]⟩ : ByteArray) ++ x1_1).size + 6 ≤ 9223372036854775807
    rotate_left
    ·rw [if_neg c6] at H
     exact absurd H (by simp)
    rw [if_pos c6] at H
    have c6b0 := eq_true c6
    have c6b1 : decide (((⟨#[1, 0, 32]⟩ : ByteArray) ++ x1_1).size + 6 ≤ 9223372036854775807) = true := decide_eq_true c6
    try have c6b2 : (9223372036854775807 < ((⟨#[1, 0, 32]⟩ : ByteArray) ++ x1_1).size + 6) = False := eq_false (Nat.not_lt.2 c6)
    try have c6b3 : (9223372036854775807 < 3 + x1_1.size + 6) = False := eq_false (Nat.not_lt.2 (by rw [ByteArray.size_append] at c6; exact c6))
    by_cases c7 : t261.toList = (((⟨#[1, 0, 32]⟩ : ByteArray) ++ x1_1) ++ (⟨#[0, 0, 1, 114, 0, 0]⟩ : ByteArray)).toList
    ·rw [if_pos c7] at H
     have c7b0 : (t261.toList == (((⟨#[1, 0, 32]⟩ : ByteArray) ++ x1_1) ++ (⟨#[0, 0, 1, 114, 0, 0]⟩ : ByteArray)).toList) = true := beq_iff_eq.mpr c7
     have c7b1 : (t261.toList != (((⟨#[1, 0, 32]⟩ : ByteArray) ++ x1_1) ++ (⟨#[0, 0, 1, 114, 0, 0]⟩ : ByteArray)).toList) = false := bne_eq_false_iff_eq.mpr c7
     clear c7
     replace H := ob_ H
     obtain ⟨t263, A80, H⟩ := H
     replace H : ((palaverref06_Id.f k1 (⟨#[120]⟩ : ByteArray)).bind fun t264 => (some (t263.toList == t264.toList))) = some r := H
     have A8 := Aside0.mk A80
     clear A80
     replace H := ob_ H
     obtain ⟨t264, A90, H⟩ := H
     replace H : (some (t263.toList == t264.toList)) = some r := H
     have A9 := Aside0.mk A90
     clear A90
     obtain rfl := Option.some.inj H
     go_wp2_with (first | ((with_reducible refine gate_callee (f := 11) rfl ?_); refine goesL_ (some 12) rfl rfl Tryd.func11 (by kernel_rfl) rfl #[.agg #[.int .i64 1, .string x1_1, .slice none 0 0, .string (⟨#[114]⟩ : ByteArray), .string (⟨#[]⟩ : ByteArray)]] rfl (by (try simp only [gm_]); first | done | rfl | (simp only [gl_]; rfl)) ?_; (refine (event_Encode.calls k1 1 x1_1 _ _ ([] : List ByteArray) (⟨#[114]⟩ : ByteArray) (⟨#[]⟩ : ByteArray) t261 t262 _ ?side1 ?side2 A3.out).mono ?_); (case side1 => exact Kd.C_nil _ _); (case side2 => exact Nat.le_refl _); rintro e w10 ⟨rfl, hb⟩; refine ⟨_, rfl, ?_⟩; have n0_ := Aside0.mk (below_step (by repeat (first | (with_reducible first | exact HB.out | apply lA_ | apply lN_ | apply lD_) | exact HB.out)) hb); clear HB; have HB := n0_; clear n0_; (try clear hb); (try clear hb2); (try clear hk); (try clear hi)) | (go_at_call 20; (with_reducible refine (event_Id.calls k1 (⟨#[120]⟩ : ByteArray) t263 _ ?side1 A8.out).mono ?_); (case side1 => repeat (first | exact (Kd.C_below HRG.out HB.out) | (with_reducible refine Kd.C_alloc ?_ _) | (with_reducible refine Kd.C_drewN ?_ _) | (with_reducible refine Kd.C_drew ?_))); rintro e w11 ⟨rfl, hb⟩; have n0_ := Aside0.mk (below_step (by repeat (first | (with_reducible first | exact HB.out | apply lA_ | apply lN_ | apply lD_) | exact HB.out)) hb); clear HB; have HB := n0_; clear n0_; (try clear hb); (try clear hb2); (try clear hk); (try clear hi)) | (go_at_call 21; (with_reducible refine (palaverref06_Id.calls k1 (⟨#[120]⟩ : ByteArray) t264 _ A9.out).mono ?_); rintro e w12 ⟨rfl, hb⟩; have n0_ := Aside0.mk (below_step (by repeat (first | (with_reducible first | exact HB.out | apply lA_ | apply lN_ | apply lD_) | exact HB.out)) hb); clear HB; have HB := n0_; clear n0_; (try clear hb); (try clear hb2); (try clear hk); (try clear hi)))
     go_ret
     exact ⟨by first | rfl | (simp [errW_none, errW_some] <;> rfl) | (simp [*, errW_none, errW_some] <;> rfl), by repeat (first | (with_reducible first | exact HB.out | apply lA_ | apply lN_ | apply lD_) | exact HB.out)⟩
    rw [if_neg c7] at H
    have c7b0 : (t261.toList == (((⟨#[1, 0, 32]⟩ : ByteArray) ++ x1_1) ++ (⟨#[0, 0, 1, 114, 0, 0]⟩ : ByteArray)).toList) = false := beq_eq_false_iff_ne.mpr c7
    have c7b1 : (t261.toList != (((⟨#[1, 0, 32]⟩ : ByteArray) ++ x1_1) ++ (⟨#[0, 0, 1, 114, 0, 0]⟩ : ByteArray)).toList) = true := bne_iff_ne.mpr c7
    obtain rfl := Option.some.inj H
    go_wp2_with (first | ((with_reducible refine gate_callee (f := 11) rfl ?_); refine goesL_ (some 12) rfl rfl Tryd.func11 (by kernel_rfl) rfl #[.agg #[.int .i64 1, .string x1_1, .slice none 0 0, .string (⟨#[114]⟩ : ByteArray), .string (⟨#[]⟩ : ByteArray)]] rfl (by (try simp only [gm_]); first | done | rfl | (simp only [gl_]; rfl)) ?_; (refine (event_Encode.calls k1 1 x1_1 _ _ ([] : List ByteArray) (⟨#[114]⟩ : ByteArray) (⟨#[]⟩ : ByteArray) t261 t262 _ ?side1 ?side2 A3.out).mono ?_); (case side1 => exact Kd.C_nil _ _); (case side2 => exact Nat.le_refl _); rintro e w13 ⟨rfl, hb⟩; refine ⟨_, rfl, ?_⟩; have n0_ := Aside0.mk (below_step (by repeat (first | (with_reducible first | exact HB.out | apply lA_ | apply lN_ | apply lD_) | exact HB.out)) hb); clear HB; have HB := n0_; clear n0_; (try clear hb); (try clear hb2); (try clear hk); (try clear hi)))
    go_ret
    exact ⟨by first | rfl | (simp [errW_none, errW_some] <;> rfl) | (simp [*, errW_none, errW_some] <;> rfl), by repeat (first | (with_reducible first | exact HB.out | apply lA_ | apply lN_ | apply lD_) | exact HB.out)⟩
   rw [if_neg c4] at H
   have c4b0 : (t262 == 0) = false := beq_eq_false_iff_ne.mpr c4
   have c4b1 : (t262 != 0) = true := bne_iff_ne.mpr c4
   obtain rfl := Option.some.inj H
   go_wp2_with (first | ((with_reducible refine gate_callee (f := 11) rfl ?_); refine goesL_ (some 12) rfl rfl Tryd.func11 (by kernel_rfl) rfl #[.agg #[.int .i64 1, .string x1_1, .slice none 0 0, .string (⟨#[114]⟩ : ByteArray), .string (⟨#[]⟩ : ByteArray)]] rfl (by (try simp only [gm_]); first | done | rfl | (simp only [gl_]; rfl)) ?_; (refine (event_Encode.calls k1 1 x1_1 _ _ ([] : List ByteArray) (⟨#[114]⟩ : ByteArray) (⟨#[]⟩ : ByteArray) t261 t262 _ ?side1 ?side2 A3.out).mono ?_); (case side1 => exact Kd.C_nil _ _); (case side2 => exact Nat.le_refl _); rintro e w14 ⟨rfl, hb⟩; refine ⟨_, rfl, ?_⟩; have n0_ := Aside0.mk (below_step (by repeat (first | (with_reducible first | exact HB.out | apply lA_ | apply lN_ | apply lD_) | exact HB.out)) hb); clear HB; have HB := n0_; clear n0_; (try clear hb); (try clear hb2); (try clear hk); (try clear hi)))
   go_ret
   exact ⟨by first | rfl | (simp [errW_none, errW_some] <;> rfl) | (simp [*, errW_none, errW_some] <;> rfl), by repeat (first | (with_reducible first | exact HB.out | apply lA_ | apply lN_ | apply lD_) | exact HB.out)⟩

end Go.Proofs.YtmedpnclkbkiiaaDoor.PP
