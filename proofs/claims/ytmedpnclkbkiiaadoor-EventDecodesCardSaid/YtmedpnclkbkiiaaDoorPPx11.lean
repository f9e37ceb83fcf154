-- WRITTEN BY a program of this work (wip/ownprint.py), for this seat
import Derived.Test.YtmedpnclkbkiiaaDoorPPx0
import Derived.Test.YtmedpnclkbkiiaaDoorPPx10
namespace Go.Proofs.YtmedpnclkbkiiaaDoor.PP
open Go.RowKit Go.Proofs.YtmedpnclkbkiiaaDoorW.PrintWords Go.Proofs.YtmedpnclkbkiiaaDoorW.PrintLast Go.Proofs.YtmedpnclkbkiiaaDoorW.PrintMore
attribute [local go_sem] max2_int min2_int max_two min_two max_three min_three max_four min_four   -- for this text's walks alone
set_option linter.unusedVariables false
set_option linter.unusedSimpArgs false

/-! ### palaverref01_Value: function 35 -/
def palaverref01_Value.l0 : Nat → ByteArray → Int → Int → Option (Int)
 | 0, _, _, _ => none
 | k + 1, x0, x3, x4 => if x4 < (x0.size : Int) then (if 0 ≤ x4 then (palaverref01_Value.l0 k x0 (wrap64 ((wrap64 (256 * x3)) + (wrap64 (bt x0 x4)))) (wrap64 (x4 + 1))) else (none)) else (some x3)
def palaverref01_Value.f (k : Nat) (a0 : ByteArray) : Option (Int) := palaverref01_Value.l0 k a0 0 0
theorem palaverref01_Value.mono_l : ∀ k, (∀ y0 y1 y2, LeO (palaverref01_Value.l0 k y0 y1 y2) (palaverref01_Value.l0 (k + 1) y0 y1 y2))
 | 0 => fun _ _ _ r h => by simp [palaverref01_Value.l0] at h
 | k + 1 => by
  have ih0 := palaverref01_Value.mono_l k
  ·intro y0 y1 y2
   unfold palaverref01_Value.l0
   repeat' first
   | (with_reducible exact ih0 _ _ _)
   | (with_reducible exact LeO.refl _)
   | (with_reducible exact LeO.none _)
   | (with_reducible refine LeO.ite ?_ ?_)
   | (with_reducible refine LeO.bind ?_ (fun _ => ?_))
   | exact ih0 _ _ _
   | exact LeO.none _
   | refine LeO.ite ?_ ?_
   | refine LeO.bind ?_ (fun _ => ?_)
theorem palaverref01_Value.mono : ∀ a0 k, LeO (palaverref01_Value.f k a0) (palaverref01_Value.f (k + 1) a0) := by
 intro a0 k
 have ih0 := palaverref01_Value.mono_l k
 unfold palaverref01_Value.f
 repeat' first
  | (with_reducible exact ih0 _ _ _)
  | (with_reducible exact LeO.refl _)
  | (with_reducible exact LeO.none _)
  | (with_reducible refine LeO.ite ?_ ?_)
  | (with_reducible refine LeO.bind ?_ (fun _ => ?_))
  | exact ih0 _ _ _
  | exact LeO.none _
  | refine LeO.ite ?_ ?_
  | refine LeO.bind ?_ (fun _ => ?_)
set_option maxHeartbeats 64000000 in
set_option maxRecDepth 100000 in
theorem palaverref01_Value.calls (k : Nat) (a0 : ByteArray) (r : Int) (w : World) (h : palaverref01_Value.f k a0 = some r) :
 Calls Tryd.prog 35 #[.string a0] w fun e w' => e = .returned (.int .i64 r) ∧ Drawn0 w w' := by
 have H : (palaverref01_Value.l0 k a0 0 0) = some r := h
 clear h
 have H' := Aside0.mk H
 clear H
 go_enter Tryd.func35, Tryd.ntmps35
 go_wp2
 go_loopg [3, 4] k (fun kq v3 v4 w' => ∃ (x3_1 : Int) (x4_1 : Int), v3 = .int .i64 x3_1 ∧ v4 = .int .i64 x4_1 ∧ Aside0 (palaverref01_Value.l0 kq a0 x3_1 x4_1 = some r) ∧ Aside0 (kq ≤ k) ∧ Drawn0 w w')
 case atStart => exact ⟨(0), (0), (by first | rfl | (simp; done) | (simp [*]; done) | exact congrArg Value.bool (nonempty_l _) | (refine congrArg (Value.int _) ?_; first | omega | (unfold wrap64; omega))), (by first | rfl | (simp; done) | (simp [*]; done) | exact congrArg Value.bool (nonempty_l _) | (refine congrArg (Value.int _) ?_; first | omega | (unfold wrap64; omega))), H', ⟨Nat.le_refl _⟩, by repeat (first | exact Drawn0.refl _ | apply Drawn0.step)⟩
 case round =>
  clear H'
  obtain ⟨x3_1, x4_1, rfl, rfl, HA, HK1, ⟨m1, rfl⟩⟩ := hrel
  cases gk with
  | zero => exact absurd HA.out (by simp [palaverref01_Value.l0])
  | succ k1 =>
   have H := HA.out
   clear HA
   simp only [palaverref01_Value.l0] at H
   by_cases c2 : x4_1 < (a0.size : Int)
   ·rw [if_pos c2] at H
    have c2b0 : decide (x4_1 < (a0.size : Int)) = true := decide_eq_true c2
    clear c2
    by_cases c3 : 0 ≤ x4_1
    rotate_left
    ·rw [if_neg c3] at H
     exact absurd H (by simp)
    rw [if_pos c3] at H
    have c3b0 : decide (0 ≤ x4_1) = true := decide_eq_true c3
    clear c3
    have H' := Aside0.mk H
    clear H
    have p4 : 0 ≤ (x4_1 : Int) := od_ (by first | (with_reducible assumption) | assumption)
    have q4 : x4_1 < (a0.size : Int) := od_ (by first | (with_reducible assumption) | assumption)
    have hx4 := bt_at a0 x4_1
    replace p4 := eq_true p4
    replace q4 := eq_true q4
    go_wp2
    go_roundg k1
    case measure => have := HK1.out; omega
    case rel => exact ⟨(wrap64 ((wrap64 (256 * x3_1)) + (wrap64 (bt a0 x4_1)))), (wrap64 (x4_1 + 1)), (by first | rfl | (simp; done) | (simp [*]; done) | exact congrArg Value.bool (nonempty_l _) | (refine congrArg (Value.int _) ?_; first | omega | (unfold wrap64; omega))), (by first | rfl | (simp; done) | (simp [*]; done) | exact congrArg Value.bool (nonempty_l _) | (refine congrArg (Value.int _) ?_; first | omega | (unfold wrap64; omega))), H', ⟨by have := HK1.out; omega⟩, by repeat (first | exact Drawn0.refl _ | apply Drawn0.step)⟩
   rw [if_neg c2] at H
   have c2b0 : decide (x4_1 < (a0.size : Int)) = false := decide_eq_false c2
   clear c2
   obtain rfl := Option.some.inj H
   go_wp2
   go_ret
   exact ⟨by first | rfl | (simp; done) | (simp [*]; done) | exact congrArg Value.bool (nonempty_l _) | (refine congrArg (Value.int _) ?_; first | omega | (unfold wrap64; omega)), by repeat (first | exact Drawn0.refl _ | apply Drawn0.step)⟩

/-! ### palaverref06_Decode: function 18 -/
mutual
def palaverref06_Decode.j0 : Nat → ByteArray → Bool → Option (Int × ByteArray × List ByteArray × ByteArray × ByteArray × Bool)
 | 0, _, _ => none
 | k + 1, x0, x15 => if x15 = true then (some (0, (⟨#[]⟩ : ByteArray), ([] : List ByteArray), (⟨#[]⟩ : ByteArray), (⟨#[]⟩ : ByteArray), false)) else (if 0 < (x0.size : Int) then (if 3 ≤ 35 then (if 35 ≤ (x0.size : Int) then (palaverref06_Decode.l0 k x0 36 0 (wrap64 (bt x0 0)) (x0.extract 3 35) ([] : List ByteArray) (⟨#[]⟩ : ByteArray) (⟨#[]⟩ : ByteArray)) else (none)) else (none)) else (none))
def palaverref06_Decode.l0 : Nat → ByteArray → Int → Int → Int → ByteArray → List ByteArray → ByteArray → ByteArray → Option (Int × ByteArray × List ByteArray × ByteArray × ByteArray × Bool)
 | 0, _, _, _, _, _, _, _, _ => none
 | k + 1, x0, x5, x6, x372000, x372001, x372002, x372003, x372004 => if 35 < (x0.size : Int) then (if x6 < (wrap64 (bt x0 35)) then (if (wrap64 (x5 + 32)) > (x0.size : Int) then (some (0, (⟨#[]⟩ : ByteArray), ([] : List ByteArray), (⟨#[]⟩ : ByteArray), (⟨#[]⟩ : ByteArray), false)) else (if 0 ≤ x5 then (if x5 ≤ (wrap64 (x5 + 32)) then (if (wrap64 (x5 + 32)) ≤ (x0.size : Int) then (if x372002.length < 8796093022208 then (palaverref06_Decode.l0 k x0 (wrap64 (x5 + 32)) (wrap64 (x6 + 1)) x372000 x372001 (x372002 ++ [x0.extract (x5 : Int).toNat ((wrap64 (x5 + 32)) : Int).toNat]) x372003 x372004) else (none)) else (none)) else (none)) else (none))) else (if (wrap64 (x5 + 2)) > (x0.size : Int) then (palaverref06_Decode.j2 k x0 x5 true x372000 x372001 x372002 x372003 x372004) else (if 0 ≤ x5 then (if x5 ≤ (wrap64 (x5 + 2)) then (if (wrap64 (x5 + 2)) ≤ (x0.size : Int) then ((palaverref01_Value.f k (x0.extract (x5 : Int).toNat ((wrap64 (x5 + 2)) : Int).toNat)).bind fun t375 => (palaverref06_Decode.j2 k x0 x5 (decide ((wrap64 ((wrap64 (x5 + 2)) + t375)) > (x0.size : Int))) x372000 x372001 x372002 x372003 x372004)) else (none)) else (none)) else (none)))) else (none)
def palaverref06_Decode.j2 : Nat → ByteArray → Int → Bool → Int → ByteArray → List ByteArray → ByteArray → ByteArray → Option (Int × ByteArray × List ByteArray × ByteArray × ByteArray × Bool)
 | 0, _, _, _, _, _, _, _, _ => none
 | k + 1, x0, x5, x66, x372000, x372001, x372002, x372003, x372004 => if x66 = true then (some (0, (⟨#[]⟩ : ByteArray), ([] : List ByteArray), (⟨#[]⟩ : ByteArray), (⟨#[]⟩ : ByteArray), false)) else (if 0 ≤ x5 then (if x5 ≤ (wrap64 (x5 + 2)) then (if (wrap64 (x5 + 2)) ≤ (x0.size : Int) then ((palaverref01_Value.f k (x0.extract (x5 : Int).toNat ((wrap64 (x5 + 2)) : Int).toNat)).bind fun t376 => (if 0 ≤ (wrap64 (x5 + 2)) then (if (wrap64 (x5 + 2)) ≤ (wrap64 ((wrap64 (x5 + 2)) + t376)) then (if (wrap64 ((wrap64 (x5 + 2)) + t376)) ≤ (x0.size : Int) then (if (wrap64 ((wrap64 ((wrap64 (x5 + 2)) + t376)) + 2)) > (x0.size : Int) then (some (0, (⟨#[]⟩ : ByteArray), ([] : List ByteArray), (⟨#[]⟩ : ByteArray), (⟨#[]⟩ : ByteArray), false)) else (if 0 ≤ (wrap64 ((wrap64 ((wrap64 (x5 + 2)) + t376)) + 2)) then (if (wrap64 ((wrap64 ((wrap64 (x5 + 2)) + t376)) + 2)) ≤ (x0.size : Int) then ((palaverref06_Right.f k x372000 x372001 x372002 (x0.extract ((wrap64 (x5 + 2)) : Int).toNat ((wrap64 ((wrap64 (x5 + 2)) + t376)) : Int).toNat) (x0.extract ((wrap64 ((wrap64 ((wrap64 (x5 + 2)) + t376)) + 2)) : Int).toNat x0.size)).bind fun t377 => (if t377 = true then ((palaverref06_Encode.f k x372000 x372001 x372002 (x0.extract ((wrap64 (x5 + 2)) : Int).toNat ((wrap64 ((wrap64 (x5 + 2)) + t376)) : Int).toNat) (x0.extract ((wrap64 ((wrap64 ((wrap64 (x5 + 2)) + t376)) + 2)) : Int).toNat x0.size)).bind fun t378 => (if t378.toList = x0.toList then (some (x372000, x372001, x372002, x0.extract ((wrap64 (x5 + 2)) : Int).toNat ((wrap64 ((wrap64 (x5 + 2)) + t376)) : Int).toNat, x0.extract ((wrap64 ((wrap64 ((wrap64 (x5 + 2)) + t376)) + 2)) : Int).toNat x0.size, true)) else (some (0, (⟨#[]⟩ : ByteArray), ([] : List ByteArray), (⟨#[]⟩ : ByteArray), (⟨#[]⟩ : ByteArray), false)))) else (some (0, (⟨#[]⟩ : ByteArray), ([] : List ByteArray), (⟨#[]⟩ : ByteArray), (⟨#[]⟩ : ByteArray), false)))) else (none)) else (none))) else (none)) else (none)) else (none))) else (none)) else (none)) else (none))
end
def palaverref06_Decode.f (k : Nat) (a0 : ByteArray) : Option (Int × ByteArray × List ByteArray × ByteArray × ByteArray × Bool) := if (a0.size : Int) < 36 then (palaverref06_Decode.j0 k a0 true) else (if 1 ≤ 3 then (if 3 ≤ (a0.size : Int) then (palaverref06_Decode.j0 k a0 ((a0.extract 1 3).toList != ([0, 32] : List UInt8))) else (none)) else (none))
theorem palaverref06_Decode.mono_l : ∀ k, (∀ y0 y1, LeO (palaverref06_Decode.j0 k y0 y1) (palaverref06_Decode.j0 (k + 1) y0 y1)) ∧ (∀ y0 y1 y2 y3 y4 y5 y6 y7, LeO (palaverref06_Decode.l0 k y0 y1 y2 y3 y4 y5 y6 y7) (palaverref06_Decode.l0 (k + 1) y0 y1 y2 y3 y4 y5 y6 y7)) ∧ (∀ y0 y1 y2 y3 y4 y5 y6 y7, LeO (palaverref06_Decode.j2 k y0 y1 y2 y3 y4 y5 y6 y7) (palaverref06_Decode.j2 (k + 1) y0 y1 y2 y3 y4 y5 y6 y7))
 | 0 => ⟨fun _ _ r h => by simp [palaverref06_Decode.j0] at h, fun _ _ _ _ _ _ _ _ r h => by simp [palaverref06_Decode.l0] at h, fun _ _ _ _ _ _ _ _ r h => by simp [palaverref06_Decode.j2] at h⟩
 | k + 1 => by
  obtain ⟨ih0, ih1, ih2⟩ := palaverref06_Decode.mono_l k
  refine ⟨?_, ?_, ?_⟩
  ·intro y0 y1
   unfold palaverref06_Decode.j0
   repeat' first
   | (with_reducible exact ih0 _ _)
   | (with_reducible exact ih1 _ _ _ _ _ _ _ _)
   | (with_reducible exact ih2 _ _ _ _ _ _ _ _)
   | (with_reducible exact palaverref01_Value.mono _ _)
   | (with_reducible exact palaverref06_Encode.mono _ _ _ _ _ _)
   | (with_reducible exact palaverref06_Right.mono _ _ _ _ _ _)
   | (with_reducible exact LeO.refl _)
   | (with_reducible exact LeO.none _)
   | (with_reducible refine LeO.ite ?_ ?_)
   | (with_reducible refine LeO.bind ?_ (fun _ => ?_))
   | exact ih0 _ _
   | exact ih1 _ _ _ _ _ _ _ _
   | exact ih2 _ _ _ _ _ _ _ _
   | exact palaverref01_Value.mono _ _
   | exact palaverref06_Encode.mono _ _ _ _ _ _
   | exact palaverref06_Right.mono _ _ _ _ _ _
   | exact LeO.none _
   | refine LeO.ite ?_ ?_
   | refine LeO.bind ?_ (fun _ => ?_)
  ·intro y0 y1 y2 y3 y4 y5 y6 y7
   unfold palaverref06_Decode.l0
   repeat' first
   | (with_reducible exact ih0 _ _)
   | (with_reducible exact ih1 _ _ _ _ _ _ _ _)
   | (with_reducible exact ih2 _ _ _ _ _ _ _ _)
   | (with_reducible exact palaverref01_Value.mono _ _)
   | (with_reducible exact palaverref06_Encode.mono _ _ _ _ _ _)
   | (with_reducible exact palaverref06_Right.mono _ _ _ _ _ _)
   | (with_reducible exact LeO.refl _)
   | (with_reducible exact LeO.none _)
   | (with_reducible refine LeO.ite ?_ ?_)
   | (with_reducible refine LeO.bind ?_ (fun _ => ?_))
   | exact ih0 _ _
   | exact ih1 _ _ _ _ _ _ _ _
   | exact ih2 _ _ _ _ _ _ _ _
   | exact palaverref01_Value.mono _ _
   | exact palaverref06_Encode.mono _ _ _ _ _ _
   | exact palaverref06_Right.mono _ _ _ _ _ _
   | exact LeO.none _
   | refine LeO.ite ?_ ?_
   | refine LeO.bind ?_ (fun _ => ?_)
  intro y0 y1 y2 y3 y4 y5 y6 y7
  unfold palaverref06_Decode.j2
  repeat' first
  | (with_reducible exact ih0 _ _)
  | (with_reducible exact ih1 _ _ _ _ _ _ _ _)
  | (with_reducible exact ih2 _ _ _ _ _ _ _ _)
  | (with_reducible exact palaverref01_Value.mono _ _)
  | (with_reducible exact palaverref06_Encode.mono _ _ _ _ _ _)
  | (with_reducible exact palaverref06_Right.mono _ _ _ _ _ _)
  | (with_reducible exact LeO.refl _)
  | (with_reducible exact LeO.none _)
  | (with_reducible refine LeO.ite ?_ ?_)
  | (with_reducible refine LeO.bind ?_ (fun _ => ?_))
  | exact ih0 _ _
  | exact ih1 _ _ _ _ _ _ _ _
  | exact ih2 _ _ _ _ _ _ _ _
  | exact palaverref01_Value.mono _ _
  | exact palaverref06_Encode.mono _ _ _ _ _ _
  | exact palaverref06_Right.mono _ _ _ _ _ _
  | exact LeO.none _
  | refine LeO.ite ?_ ?_
  | refine LeO.bind ?_ (fun _ => ?_)
theorem palaverref06_Decode.mono : ∀ a0 k, LeO (palaverref06_Decode.f k a0) (palaverref06_Decode.f (k + 1) a0) := by
 intro a0 k
 obtain ⟨ih0, ih1, ih2⟩ := palaverref06_Decode.mono_l k
 unfold palaverref06_Decode.f
 repeat' first
  | (with_reducible exact ih0 _ _)
  | (with_reducible exact ih1 _ _ _ _ _ _ _ _)
  | (with_reducible exact ih2 _ _ _ _ _ _ _ _)
  | (with_reducible exact palaverref01_Value.mono _ _)
  | (with_reducible exact palaverref06_Encode.mono _ _ _ _ _ _)
  | (with_reducible exact palaverref06_Right.mono _ _ _ _ _ _)
  | (with_reducible exact LeO.refl _)
  | (with_reducible exact LeO.none _)
  | (with_reducible refine LeO.ite ?_ ?_)
  | (with_reducible refine LeO.bind ?_ (fun _ => ?_))
  | exact ih0 _ _
  | exact ih1 _ _ _ _ _ _ _ _
  | exact ih2 _ _ _ _ _ _ _ _
  | exact palaverref01_Value.mono _ _
  | exact palaverref06_Encode.mono _ _ _ _ _ _
  | exact palaverref06_Right.mono _ _ _ _ _ _
  | exact LeO.none _
  | refine LeO.ite ?_ ?_
  | refine LeO.bind ?_ (fun _ => ?_)
def palaverref06_Decode.T3 : Bool × List (List Nat × List Nat) := (true, [([], []), ([0], [0]), ([1], [1]), ([], []), ([3], [3]), ([2, 4], [2, 4]), ([], []), ([6, 5, 0, 1, 2, 3, 4, 5, 6], [5, 6])])
def palaverref06_Decode.B3 : List Nat := [0, 1, 3, 0, 8, 31, 0, 127]
theorem palaverref06_Decode.tab3 : rtab .any (opsOf Tryd.f18 3) = palaverref06_Decode.T3 := by kernel_rfl
theorem palaverref06_Decode.bits3 : waitsOk palaverref06_Decode.T3.2 palaverref06_Decode.B3 = true := by kernel_rfl
def palaverref06_Decode.T10 : Bool × List (List Nat × List Nat) := (true, [([], []), ([0], [0]), ([], []), ([], []), ([], []), ([4], [4]), ([2, 3, 5], [2, 3, 5]), ([6], [6]), ([1, 7], [1, 7]), ([0, 1, 2, 3, 4, 5, 6, 7, 8], []), ([9, 8, 8, 0, 1, 2, 3, 4, 5, 6, 7, 8], [8, 9])])
def palaverref06_Decode.B10 : List Nat := [0, 1, 0, 0, 0, 16, 60, 124, 255, 511, 1023]
theorem palaverref06_Decode.tab10 : rtab .any (opsOf Tryd.f18 10) = palaverref06_Decode.T10 := by kernel_rfl
theorem palaverref06_Decode.bits10 : waitsOk palaverref06_Decode.T10.2 palaverref06_Decode.B10 = true := by kernel_rfl
set_option maxHeartbeats 64000000 in
set_option maxRecDepth 100000 in
theorem palaverref06_Decode.calls (k : Nat) (a0 : ByteArray) (r1 : Int) (r2 : ByteArray) (r3 : List ByteArray) (r4 : ByteArray) (r5 : ByteArray) (r6 : Bool) (w : World) (h : palaverref06_Decode.f k a0 = some (r1, r2, r3, r4, r5, r6)) :
 Calls Tryd.prog 18 #[.string a0] w fun e w' => ∃ v2_ : Value, e = .returned (.tuple #[.agg #[.int .i64 r1, .string r2, v2_, .string r4, .string r5], .bool r6]) ∧ Kd.R Kd.string 9 w' w.heap.size (fun _ => True) v2_ r3 ∧ Below w.heap.size w w' := by
 have hu24 := Tryd.underlying24
 have HB := Aside0.mk (Below.refl w.heap.size w)
 have H : (if (a0.size : Int) < 36 then (palaverref06_Decode.j0 k a0 true) else (if 1 ≤ 3 then (if 3 ≤ (a0.size : Int) then (palaverref06_Decode.j0 k a0 ((a0.extract 1 3).toList != ([0, 32] : List UInt8))) else (none)) else (none))) = some (r1, r2, r3, r4, r5, r6) := h
 clear h
 have HC2 := Aside0.mk H
 clear H
 go_enter Tryd.func18, Tryd.ntmps18
 go_upto_region 1 with (first | ((with_reducible refine gate_dst (N := 2) rfl ?_); (try (refine gate_guard (by rfl) ?_; dsimp only)); refine box_event ?hg (N := 2) ?hd (cs := #[.int .i64 0, .string (⟨#[]⟩ : ByteArray), .slice none 0 0, .string (⟨#[]⟩ : ByteArray), .string (⟨#[]⟩ : ByteArray)]) (t := 24) ?hr ?_; (case hd => rfl); (case hg => rfl); (case hr => first | (go_simp; done) | (go_simp; rfl)); intro gb370 hg w3 hbox hb; have n0_ := Aside0.mk (below_step (by repeat (first | (with_reducible first | exact HB.out | apply lA_ | apply lN_ | apply lD_) | exact HB.out)) hb); have n1_ := Aside0.mk (hbox); have n2_ := Aside0.mk ((by rw [hg]; exact (below_size (by repeat (first | (with_reducible first | exact HB.out | apply lA_ | apply lN_ | apply lD_) | exact HB.out))) : w.heap.size ≤ gb370)); have n3_ := Aside0.mk ((by rw [hg]; exact (below_size (by repeat (first | (with_reducible first | exact HB.out | apply lA_ | apply lN_ | apply lD_) | exact HB.out))) : w.heap.size ≤ gb370)); clear HB; have HB := n0_; have BK370 := n1_; have GW370 := n2_; have GE370 := n3_; clear n0_ n1_ n2_ n3_; clear hb hbox hg))
 (try simp only [Act.put, List.setIfInBounds_toArray, List.set_cons_zero, List.set_cons_succ])
 go_cut [15] (fun v15 wc => ∃ (kq : Nat) (x15_1 : Bool), v15 = .bool x15_1 ∧ Aside0 (palaverref06_Decode.j0 kq a0 x15_1 = some (r1, r2, r3, r4, r5, r6)) ∧ Aside0 (kq ≤ k) ∧ Aside0 (wc.heap[gb370]? = some (.cells #[.int .i64 0, .string (⟨#[]⟩ : ByteArray), (.slice none 0 0), .string (⟨#[]⟩ : ByteArray), .string (⟨#[]⟩ : ByteArray)] 24 (0, 0))) ∧ Aside0 (Below w.heap.size w wc))
 case first =>
  have H := HC2.out
  clear HC2
  by_cases c4 : (a0.size : Int) < 36
  ·rw [if_pos c4] at H
   have c4b0 : decide ((a0.size : Int) < 36) = true := decide_eq_true c4
   have c4b1 : decide (a0.size < 36) = true := decide_eq_true (by omega)
   clear c4
   (first | rw [c4b0] | (simp only [i64_w, i32_w]; rw [c4b0]) | skip)
   have H' := Aside0.mk H
   clear H
   go_wp2
   go_meet
   case rel => exact ⟨_, (true), (by first | rfl | (simp; done) | (simp [*]; done) | exact congrArg Value.bool (nonempty_l _) | (refine congrArg (Value.int _) ?_; first | omega | (unfold wrap64; omega))), H', ⟨by first | omega | exact Nat.le_refl _⟩, ⟨by (with_reducible repeat (first | refine bN_ ?_ _ | refine bD_ ?_ | refine bA_ ?_ _)); exact BK370.out⟩, ⟨by repeat (first | (with_reducible first | exact HB.out | apply lA_ | apply lN_ | apply lD_ | refine lS_ ?_ GE370.out) | exact HB.out)⟩⟩
  rw [if_neg c4] at H
  have c4b0 : decide ((a0.size : Int) < 36) = false := decide_eq_false c4
  have c4b1 : decide (a0.size < 36) = false := decide_eq_false (by omega)
  clear c4
  (first | rw [c4b0] | (simp only [i64_w, i32_w]; rw [c4b0]) | skip)
  by_cases c5 : 1 ≤ 3
  rotate_left
  ·rw [if_neg c5] at H
   exact absurd H (by simp)
  rw [if_pos c5] at H
  have c5b0 := eq_true c5
  have c5b1 : decide (1 ≤ 3) = true := decide_eq_true c5
  clear c5
  by_cases c6 : 3 ≤ (a0.size : Int)
  rotate_left
  ·rw [if_neg c6] at H
   exact absurd H (by simp)
  rw [if_pos c6] at H
  have c6b0 := eq_true c6
  have c6b1 : decide (3 ≤ (a0.size : Int)) = true := decide_eq_true c6
  clear c6
  have H' := Aside0.mk H
  clear H
  go_wp2
  go_meet
  case rel => exact ⟨_, (((a0.extract 1 3).toList != ([0, 32] : List UInt8))), (by first | rfl | (simp; done) | (simp [*]; done) | exact congrArg Value.bool (nonempty_l _) | (refine congrArg (Value.int _) ?_; first | omega | (unfold wrap64; omega))), H', ⟨by first | omega | exact Nat.le_refl _⟩, ⟨by (with_reducible repeat (first | refine bN_ ?_ _ | refine bD_ ?_ | refine bA_ ?_ _)); exact BK370.out⟩, ⟨by repeat (first | (with_reducible first | exact HB.out | apply lA_ | apply lN_ | apply lD_ | refine lS_ ?_ GE370.out) | exact HB.out)⟩⟩
 case rest =>
  clear HC2
  (try clear c1); (try clear p2); (try clear c4); (try clear c4b0); (try clear c4b1); (try clear c5); (try clear c5b0); (try clear c5b1); (try clear c6); (try clear c6b0); (try clear c6b1); (try clear p6)
  obtain ⟨kq, x15_1, rfl, HA, HJ1, BK370, HB⟩ := hcut
  cases kq with
  | zero => exact absurd HA.out (by simp [palaverref06_Decode.j0])
  | succ kj1 =>
   have H := HA.out
   clear HA
   simp only [palaverref06_Decode.j0] at H
   by_cases c7 : x15_1 = true
   ·subst c7
    have H1 : (some (0, (⟨#[]⟩ : ByteArray), ([] : List ByteArray), (⟨#[]⟩ : ByteArray), (⟨#[]⟩ : ByteArray), false)) = some (r1, r2, r3, r4, r5, r6) := by rw [if_pos rfl] at H; exact H
    clear H
    have H := H1
    clear H1
    simp only [Option.some.injEq, Prod.mk.injEq] at H
    obtain ⟨rfl, rfl, rfl, rfl, rfl, rfl⟩ := H
    obtain ⟨hcz8_0, hcz8_1, hcz8_2, hcz8_3, hcz8_4⟩ := c5_ BK370.out
    obtain ⟨hfz8_0, hfz8_1, hfz8_2, hfz8_3, hfz8_4⟩ := f5_ BK370.out
    go_wp2
    refine bodyPost_ret (results_ct rfl _ _ gb370 24 #[.int .i64 0, .string (⟨#[]⟩ : ByteArray), .slice none 0 0, .string (⟨#[]⟩ : ByteArray), .string (⟨#[]⟩ : ByteArray)] (0, 0) _ rfl (by (with_reducible repeat (first | refine bN_ ?_ _ | refine bD_ ?_ | refine bA_ ?_ _)); refine blk_put (cs := #[.int .i64 0, .string (⟨#[]⟩ : ByteArray), .slice none 0 0, .string (⟨#[]⟩ : ByteArray), .string (⟨#[]⟩ : ByteArray)]) ?_ 4 _ rfl; (with_reducible repeat (first | refine bN_ ?_ _ | refine bD_ ?_ | refine bA_ ?_ _)); refine blk_put (cs := #[.int .i64 0, .string (⟨#[]⟩ : ByteArray), .slice none 0 0, .string (⟨#[]⟩ : ByteArray), .string (⟨#[]⟩ : ByteArray)]) ?_ 3 _ rfl; (with_reducible repeat (first | refine bN_ ?_ _ | refine bD_ ?_ | refine bA_ ?_ _)); refine blk_put (cs := #[.int .i64 0, .string (⟨#[]⟩ : ByteArray), .slice none 0 0, .string (⟨#[]⟩ : ByteArray), .string (⟨#[]⟩ : ByteArray)]) ?_ 2 _ rfl; (with_reducible repeat (first | refine bN_ ?_ _ | refine bD_ ?_ | refine bA_ ?_ _)); refine blk_put (cs := #[.int .i64 0, .string (⟨#[]⟩ : ByteArray), .slice none 0 0, .string (⟨#[]⟩ : ByteArray), .string (⟨#[]⟩ : ByteArray)]) ?_ 1 _ rfl; (with_reducible repeat (first | refine bN_ ?_ _ | refine bD_ ?_ | refine bA_ ?_ _)); refine blk_put (cs := #[.int .i64 0, .string (⟨#[]⟩ : ByteArray), .slice none 0 0, .string (⟨#[]⟩ : ByteArray), .string (⟨#[]⟩ : ByteArray)]) ?_ 0 _ rfl; (with_reducible repeat (first | refine bN_ ?_ _ | refine bD_ ?_ | refine bA_ ?_ _)); exact BK370.out) Tryd.underlying24 rfl (by kernel_rfl)) rfl ?_
    exact ⟨_, by first | rfl | (simp [errW_none, errW_some] <;> rfl) | (simp [*, errW_none, errW_some] <;> rfl), by first | exact Kd.R_nil _ _ _ _ _ | exact Kd.N_nil _ _ _ _ _ | exact Kd.V_nil _ _ _ _ _ | exact Kd.Q_nil _ _ _ _ _ | exact Kd.S_nil _ _ _ _ _, by repeat (first | (with_reducible first | exact HB.out | apply lA_ | apply lN_ | apply lD_ | refine lS_ ?_ GE370.out) | exact HB.out)⟩
   replace c7 := Bool.eq_false_iff.mpr c7
   subst c7
   have H1 : (if 0 < (a0.size : Int) then (if 3 ≤ 35 then (if 35 ≤ (a0.size : Int) then (palaverref06_Decode.l0 kj1 a0 36 0 (wrap64 (bt a0 0)) (a0.extract 3 35) ([] : List ByteArray) (⟨#[]⟩ : ByteArray) (⟨#[]⟩ : ByteArray)) else (none)) else (none)) else (none)) = some (r1, r2, r3, r4, r5, r6) := by rw [if_neg (show ¬ (false = true) by decide)] at H; exact H
   clear H
   have H := H1
   clear H1
   by_cases c9 : 0 < (a0.size : Int)
   rotate_left
   ·rw [if_neg c9] at H
    exact absurd H (by simp)
   rw [if_pos c9] at H
   have c9b0 : decide (0 < (a0.size : Int)) = true := decide_eq_true c9
   have c9b1 : decide (0 < a0.size) = true := decide_eq_true (by omega)
   clear c9
   by_cases c11 : 3 ≤ 35
   rotate_left
   ·rw [if_neg c11] at H
    exact absurd H (by simp)
   rw [if_pos c11] at H
   have c11b0 := eq_true c11
   have c11b1 : decide (3 ≤ 35) = true := decide_eq_true c11
   clear c11
   by_cases c12 : 35 ≤ (a0.size : Int)
   rotate_left
   ·rw [if_neg c12] at H
    exact absurd H (by simp)
   rw [if_pos c12] at H
   have c12b0 := eq_true c12
   have c12b1 : decide (35 ≤ (a0.size : Int)) = true := decide_eq_true c12
   clear c12
   have H' := Aside0.mk H
   clear H
   try go_wp2
   have n0_ := Aside0.mk (blk_drew BK370.out)
   have n1_ := Aside0.mk (below_drew1 HB.out)
   clear BK370
   clear HB
   have BK370 := n0_
   have HB := n1_
   clear n0_ n1_
   have p10 : 0 ≤ (0 : Int) := (by omega)
   have q10 : 0 < a0.size := (by have : (0 : Int) < (a0.size : Int) := od_ (by first | (with_reducible assumption) | assumption); omega)
   have hx10 : ∀ h : 0 < a0.size, ((a0[0]'h).toNat : Int) = bt a0 0 := bt_at a0 0
   clear p10
   have qi10 : (0 < (a0.size : Int)) = True := eq_true (od_ (by first | (with_reducible assumption) | assumption))
   replace q10 := eq_true q10
   refine start_ (n := 8) (S := fun w' => True) (ds := []) #[false, false, false, false, false, false, false, false] (by kernel_rfl) rfl rfl trivial (fun hHeld => ?_); refine with_tabW palaverref06_Decode.tab3 palaverref06_Decode.bits3 (fun HT_ HW_ => ?_)
   generalize wc.drew = w13 at BK370 HB hHeld ⊢
   refine runs_ [(0, some 17), (3, some 20), (4, some 21)] ?_
   iterate 3 (refine pureL_ (v := ?_) (a' := ?_) rfl rfl (any_of HT_.out (by kernel_rfl)) (Or.inl ⟨by rfl, ?_⟩) ?_ ?_ (fun _ _ _ h => h); rotate_left; (intro w'; go_simp; with_reducible rfl); rotate_left; (simp only [pr_]; rfl))
   refine runsE_ ?_
   refine take_ (i := 1) (N := some 18) (v := ?_) (a' := ?_) #[true, true, false, true, true, false, false, false] rfl rfl (take_ofW HT_.out HW_.out (by kernel_rfl)) (fun _ _ _ h => h) (Or.inl ⟨by rfl, ?_⟩) hHeld ?_ ?_
   rotate_left
   ·intro w' _
    go_simp
    with_reducible rfl
   rotate_left
   ·simp only [pr_]
    rfl
   refine runs_ [(2, some 19), (5, some 22)] ?_
   iterate 2 (refine pureL_ (v := ?_) (a' := ?_) rfl rfl (any_of HT_.out (by kernel_rfl)) (Or.inl ⟨by rfl, ?_⟩) ?_ ?_ (fun _ _ _ h => h); rotate_left; (intro w'; go_simp; with_reducible rfl); rotate_left; (simp only [pr_]; rfl))
   refine runsE_ ?_
   refine one_ (i := 6) (N := some 4) #[true, true, true, true, true, true, true, false] rfl rfl (one_of HT_.out (by kernel_rfl)) (by decide) (fun K hK => ?_)
   refine box_step ?hg (N := 4) ?hd (cs := #[.int .i64 0, .string (⟨#[]⟩ : ByteArray), .slice none 0 0, .string (⟨#[]⟩ : ByteArray), .string (⟨#[]⟩ : ByteArray)]) (t := 24) ?hr ?_; (case hd => rfl); (case hg => rfl); (case hr => first | (go_simp; done) | (go_simp; rfl))
   intro gb371 hg w14 hbox hb
   have n0_ := Aside0.mk (blk_below (g := gb370) (o := .cells #[.int .i64 0, .string (⟨#[]⟩ : ByteArray), .slice none 0 0, .string (⟨#[]⟩ : ByteArray), .string (⟨#[]⟩ : ByteArray)] 24 (0, 0)) (by (with_reducible repeat (first | refine bN_ ?_ _ | refine bD_ ?_ | refine bA_ ?_ _)); exact BK370.out) hb)
   have n1_ := Aside0.mk (below_step (by repeat (first | (with_reducible first | exact HB.out | apply lA_ | apply lN_ | apply lD_ | refine lS_ ?_ GE370.out) | exact HB.out)) hb)
   have n2_ := Aside0.mk (hbox)
   have n3_ := Aside0.mk ((by rw [hg]; exact (below_size (by repeat (first | (with_reducible first | exact HB.out | apply lA_ | apply lN_ | apply lD_ | refine lS_ ?_ GE370.out) | exact HB.out))) : w.heap.size ≤ gb371))
   have n4_ := Aside0.mk ((by rw [hg]; exact (below_size (by repeat (first | (with_reducible first | exact HB.out | apply lA_ | apply lN_ | apply lD_ | refine lS_ ?_ GE370.out) | exact HB.out))) : w.heap.size ≤ gb371))
   have n5_ := Aside0.mk ((by rw [hg]; exact Nat.ne_of_lt (blk_lt (g := gb370) (o := .cells #[.int .i64 0, .string (⟨#[]⟩ : ByteArray), .slice none 0 0, .string (⟨#[]⟩ : ByteArray), .string (⟨#[]⟩ : ByteArray)] 24 (0, 0)) (by (with_reducible repeat (first | refine bN_ ?_ _ | refine bD_ ?_ | refine bA_ ?_ _)); exact BK370.out)) : gb370 ≠ gb371))
   have n6_ := Aside0.mk ((by rw [hg]; exact Nat.ne_of_gt (blk_lt (g := gb370) (o := .cells #[.int .i64 0, .string (⟨#[]⟩ : ByteArray), .slice none 0 0, .string (⟨#[]⟩ : ByteArray), .string (⟨#[]⟩ : ByteArray)] 24 (0, 0)) (by (with_reducible repeat (first | refine bN_ ?_ _ | refine bD_ ?_ | refine bA_ ?_ _)); exact BK370.out)) : gb371 ≠ gb370))
   clear BK370
   clear HB
   have BK370 := n0_
   have HB := n1_
   have BK371 := n2_
   have GW371 := n3_
   have GE371 := n4_
   have NB370_371 := n5_
   have NB371_370 := n6_
   clear n0_ n1_ n2_ n3_ n4_ n5_ n6_
   clear hb hbox hg
   refine hK.out _ _ trivial (fun hHeld => ?_)
   clear hK K
   refine norm_ (a' := ?_) ?_ ?_
   rotate_left
   ·show Act.put _ (some 4) _ = _
    simp only [pr_]
    rfl
   refine one_ (i := 7) (N := none) #[true, true, true, true, true, true, true, true] rfl rfl (one_of HT_.out (by kernel_rfl)) (by decide) (fun K hK => ?_)
   have hs15 : w14.cell? ⟨gb371, 0, none⟩ = some (.int .i64 0) := (blk_cell BK371.out 0).trans rfl
   have hfs15 := blk_frozen BK371.out 0
   have hns15_0 := NB370_371.out
   have hms15_0 := NB371_370.out
   have hs16 : w14.cell? ⟨gb371, 1, none⟩ = some (.string (⟨#[]⟩ : ByteArray)) := (blk_cell BK371.out 1).trans rfl
   have hfs16 := blk_frozen BK371.out 1
   have hns16_0 := NB370_371.out
   have hms16_0 := NB371_370.out
   have hs17 : w14.cell? ⟨gb371, 2, none⟩ = some (.slice none 0 0) := (blk_cell BK371.out 2).trans rfl
   have hfs17 := blk_frozen BK371.out 2
   have hns17_0 := NB370_371.out
   have hms17_0 := NB371_370.out
   have hs18 : w14.cell? ⟨gb371, 3, none⟩ = some (.string (⟨#[]⟩ : ByteArray)) := (blk_cell BK371.out 3).trans rfl
   have hfs18 := blk_frozen BK371.out 3
   have hns18_0 := NB370_371.out
   have hms18_0 := NB371_370.out
   have hs19 : w14.cell? ⟨gb371, 4, none⟩ = some (.string (⟨#[]⟩ : ByteArray)) := (blk_cell BK371.out 4).trans rfl
   have hfs19 := blk_frozen BK371.out 4
   have hns19_0 := NB370_371.out
   have hms19_0 := NB371_370.out
   refine skip_ (w1 := ?_) (by rfl) rfl ?_ ?_
   rotate_left
   ·go_simp
    rfl
   refine hK.out _ _ trivial (fun hHeld => ?_)
   clear hK K
   refine done_ (done_of HT_.out (by kernel_rfl)) ?_
   try go_wp2
   go_loopg [5, 6] kj1 (fun kq v5 v6 w' => ∃ (x5_2 : Int) (x6_2 : Int) (x371000_2 : Int) (x371001_2 : ByteArray) (x371003_2 : ByteArray) (x371004_2 : ByteArray) (x372002_2 : List ByteArray) (u372002 : Value), v5 = .int .i64 x5_2 ∧ v6 = .int .i64 x6_2 ∧ Aside0 (palaverref06_Decode.l0 kq a0 x5_2 x6_2 (wrap64 (bt a0 0)) (a0.extract 3 35) x372002_2 (⟨#[]⟩ : ByteArray) (⟨#[]⟩ : ByteArray) = some (r1, r2, r3, r4, r5, r6)) ∧ Aside0 (kq ≤ kj1) ∧ Aside0 (Kd.R Kd.string 9 w' w.heap.size (fun _ => True) u372002 x372002_2) ∧ Aside0 (w'.heap[gb370]? = some (.cells #[.int .i64 x371000_2, .string x371001_2, (.slice none 0 0), .string x371003_2, .string x371004_2] 24 (0, 0))) ∧ Aside0 (w'.heap[gb371]? = some (.cells #[.int .i64 (wrap64 (bt a0 0)), .string (a0.extract 3 35), u372002, .string (⟨#[]⟩ : ByteArray), .string (⟨#[]⟩ : ByteArray)] 24 (0, 0))) ∧ Aside0 (Below w.heap.size w w'))
   case atStart => exact ⟨(36), (0), (0), ((⟨#[]⟩ : ByteArray)), ((⟨#[]⟩ : ByteArray)), ((⟨#[]⟩ : ByteArray)), (([] : List ByteArray)), (.slice none 0 0), (by first | rfl | (simp; done) | (simp [*]; done) | exact congrArg Value.bool (nonempty_l _) | (refine congrArg (Value.int _) ?_; first | omega | (unfold wrap64; omega))), (by first | rfl | (simp; done) | (simp [*]; done) | exact congrArg Value.bool (nonempty_l _) | (refine congrArg (Value.int _) ?_; first | omega | (unfold wrap64; omega))), H', ⟨Nat.le_refl _⟩, ⟨by first | exact Kd.R_nil _ _ _ _ _ | exact Kd.N_nil _ _ _ _ _ | exact Kd.V_nil _ _ _ _ _ | exact Kd.Q_nil _ _ _ _ _ | exact Kd.S_nil _ _ _ _ _⟩, ⟨by (with_reducible repeat (first | refine bN_ ?_ _ | refine bD_ ?_ | refine bA_ ?_ _)); refine blk_far ?_ NB370_371.out _; (with_reducible repeat (first | refine bN_ ?_ _ | refine bD_ ?_ | refine bA_ ?_ _)); refine blk_far ?_ NB370_371.out _; (with_reducible repeat (first | refine bN_ ?_ _ | refine bD_ ?_ | refine bA_ ?_ _)); refine blk_far ?_ NB370_371.out _; (with_reducible repeat (first | refine bN_ ?_ _ | refine bD_ ?_ | refine bA_ ?_ _)); refine blk_far ?_ NB370_371.out _; (with_reducible repeat (first | refine bN_ ?_ _ | refine bD_ ?_ | refine bA_ ?_ _)); refine blk_far ?_ NB370_371.out _; (with_reducible repeat (first | refine bN_ ?_ _ | refine bD_ ?_ | refine bA_ ?_ _)); exact BK370.out⟩, ⟨by (with_reducible repeat (first | refine bN_ ?_ _ | refine bD_ ?_ | refine bA_ ?_ _)); refine blk_put (cs := #[.int .i64 (wrap64 (bt a0 0)), .string (a0.extract 3 35), .slice none 0 0, .string (⟨#[]⟩ : ByteArray), .string (⟨#[]⟩ : ByteArray)]) ?_ 4 _ rfl; (with_reducible repeat (first | refine bN_ ?_ _ | refine bD_ ?_ | refine bA_ ?_ _)); refine blk_put (cs := #[.int .i64 (wrap64 (bt a0 0)), .string (a0.extract 3 35), .slice none 0 0, .string (⟨#[]⟩ : ByteArray), .string (⟨#[]⟩ : ByteArray)]) ?_ 3 _ rfl; (with_reducible repeat (first | refine bN_ ?_ _ | refine bD_ ?_ | refine bA_ ?_ _)); refine blk_put (cs := #[.int .i64 (wrap64 (bt a0 0)), .string (a0.extract 3 35), .slice none 0 0, .string (⟨#[]⟩ : ByteArray), .string (⟨#[]⟩ : ByteArray)]) ?_ 2 _ rfl; (with_reducible repeat (first | refine bN_ ?_ _ | refine bD_ ?_ | refine bA_ ?_ _)); refine blk_put (cs := #[.int .i64 (wrap64 (bt a0 0)), .string (⟨#[]⟩ : ByteArray), .slice none 0 0, .string (⟨#[]⟩ : ByteArray), .string (⟨#[]⟩ : ByteArray)]) ?_ 1 _ rfl; (with_reducible repeat (first | refine bN_ ?_ _ | refine bD_ ?_ | refine bA_ ?_ _)); refine blk_put (cs := #[.int .i64 0, .string (⟨#[]⟩ : ByteArray), .slice none 0 0, .string (⟨#[]⟩ : ByteArray), .string (⟨#[]⟩ : ByteArray)]) ?_ 0 _ rfl; (with_reducible repeat (first | refine bN_ ?_ _ | refine bD_ ?_ | refine bA_ ?_ _)); exact BK371.out⟩, ⟨by repeat (first | (with_reducible first | exact HB.out | apply lA_ | apply lN_ | apply lD_ | refine lS_ ?_ GE370.out | refine lS_ ?_ GE371.out) | exact HB.out)⟩⟩
   case round =>
    clear H'
    (try clear c1); (try clear p1); (try clear q1); (try clear hx1); (try clear qi1); (try clear p2); (try clear c4); (try clear c4b0); (try clear c4b1); (try clear c5); (try clear c5b0); (try clear c5b1); (try clear c6); (try clear c6b0); (try clear c6b1); (try clear p6); (try clear c7); (try clear c9); (try clear c9b0); (try clear c9b1); (try clear p10); (try clear q10); (try clear hx10); (try clear qi10); (try clear c11); (try clear c11b0); (try clear c11b1); (try clear c12); (try clear c12b0); (try clear c12b1); (try clear c18); (try clear hcz8_0); (try clear hcz8_1); (try clear hcz8_2); (try clear hcz8_3); (try clear hcz8_4); (try clear hfz8_0); (try clear hfz8_1); (try clear hfz8_2); (try clear hfz8_3); (try clear hfz8_4); (try clear p10); (try clear p2); (try clear p6); (try clear q10)
    obtain ⟨x5_2, x6_2, x371000_2, x371001_2, x371003_2, x371004_2, x372002_2, u372002, rfl, rfl, HA, HK2, HO_372002, BK370, BK371, HB⟩ := hrel
    cases gk with
    | zero => exact absurd HA.out (by simp [palaverref06_Decode.l0])
    | succ k2 =>
     have H := HA.out
     clear HA
     simp only [palaverref06_Decode.l0] at H
     by_cases c20 : 35 < (a0.size : Int)
     rotate_left
     ·rw [if_neg c20] at H
      exact absurd H (by simp)
     rw [if_pos c20] at H
     have c20b0 : decide (35 < (a0.size : Int)) = true := decide_eq_true c20
     have c20b1 : decide (35 < a0.size) = true := decide_eq_true (by omega)
     clear c20
     by_cases c22 : x6_2 < (wrap64 (bt a0 35))
     ·rw [if_pos c22] at H
      have c22b0 : decide (x6_2 < (wrap64 (bt a0 35))) = true := decide_eq_true c22
      clear c22
      by_cases c23 : (wrap64 (x5_2 + 32)) > (a0.size : Int)
      ·rw [if_pos c23] at H
       have c23b0 : decide ((a0.size : Int) < (wrap64 (x5_2 + 32))) = true := decide_eq_true c23
       clear c23
       simp only [Option.some.injEq, Prod.mk.injEq] at H
       obtain ⟨rfl, rfl, rfl, rfl, rfl, rfl⟩ := H
       have p21 : 0 ≤ (35 : Int) := (by omega)
       have q21 : 35 < a0.size := (by have : (35 : Int) < (a0.size : Int) := od_ (by first | (with_reducible assumption) | assumption); omega)
       have hx21 : ∀ h : 35 < a0.size, ((a0[35]'h).toNat : Int) = bt a0 35 := bt_at a0 35
       clear p21
       have qi21 : (35 < (a0.size : Int)) = True := eq_true (od_ (by first | (with_reducible assumption) | assumption))
       replace q21 := eq_true q21
       have hnb24 := NB370_371.out
       have hnc24 := NB371_370.out
       obtain ⟨hcz25_0, hcz25_1, hcz25_2, hcz25_3, hcz25_4⟩ := c5_ BK370.out
       obtain ⟨hfz25_0, hfz25_1, hfz25_2, hfz25_3, hfz25_4⟩ := f5_ BK370.out
       go_wp2
       refine bodyPost_ret (results_ct rfl _ _ gb370 24 #[.int .i64 0, .string (⟨#[]⟩ : ByteArray), .slice none 0 0, .string (⟨#[]⟩ : ByteArray), .string (⟨#[]⟩ : ByteArray)] (0, 0) _ rfl (by (with_reducible repeat (first | refine bN_ ?_ _ | refine bD_ ?_ | refine bA_ ?_ _)); refine blk_put (cs := #[.int .i64 0, .string (⟨#[]⟩ : ByteArray), .slice none 0 0, .string (⟨#[]⟩ : ByteArray), .string x371004_2]) ?_ 4 _ rfl; (with_reducible repeat (first | refine bN_ ?_ _ | refine bD_ ?_ | refine bA_ ?_ _)); refine blk_put (cs := #[.int .i64 0, .string (⟨#[]⟩ : ByteArray), .slice none 0 0, .string x371003_2, .string x371004_2]) ?_ 3 _ rfl; (with_reducible repeat (first | refine bN_ ?_ _ | refine bD_ ?_ | refine bA_ ?_ _)); refine blk_put (cs := #[.int .i64 0, .string (⟨#[]⟩ : ByteArray), .slice none 0 0, .string x371003_2, .string x371004_2]) ?_ 2 _ rfl; (with_reducible repeat (first | refine bN_ ?_ _ | refine bD_ ?_ | refine bA_ ?_ _)); refine blk_put (cs := #[.int .i64 0, .string x371001_2, .slice none 0 0, .string x371003_2, .string x371004_2]) ?_ 1 _ rfl; (with_reducible repeat (first | refine bN_ ?_ _ | refine bD_ ?_ | refine bA_ ?_ _)); refine blk_put (cs := #[.int .i64 x371000_2, .string x371001_2, .slice none 0 0, .string x371003_2, .string x371004_2]) ?_ 0 _ rfl; (with_reducible repeat (first | refine bN_ ?_ _ | refine bD_ ?_ | refine bA_ ?_ _)); exact BK370.out) Tryd.underlying24 rfl (by kernel_rfl)) rfl ?_
       exact ⟨_, by first | rfl | (simp [errW_none, errW_some] <;> rfl) | (simp [*, errW_none, errW_some] <;> rfl), by first | exact Kd.R_nil _ _ _ _ _ | exact Kd.N_nil _ _ _ _ _ | exact Kd.V_nil _ _ _ _ _ | exact Kd.Q_nil _ _ _ _ _ | exact Kd.S_nil _ _ _ _ _, by repeat (first | (with_reducible first | exact HB.out | apply lA_ | apply lN_ | apply lD_ | refine lS_ ?_ GE370.out | refine lS_ ?_ GE371.out) | exact HB.out)⟩
      rw [if_neg c23] at H
      have c23b0 : decide ((a0.size : Int) < (wrap64 (x5_2 + 32))) = false := decide_eq_false c23
      clear c23
      by_cases c26 : 0 ≤ x5_2
      rotate_left
      ·rw [if_neg c26] at H
       exact absurd H (by simp)
      rw [if_pos c26] at H
      have c26b0 := eq_true c26
      have c26b1 : decide (0 ≤ x5_2) = true := decide_eq_true c26
      clear c26
      by_cases c27 : x5_2 ≤ (wrap64 (x5_2 + 32))
      rotate_left
      ·rw [if_neg c27] at H
       exact absurd H (by simp)
      rw [if_pos c27] at H
      have c27b0 := eq_true c27
      have c27b1 : decide (x5_2 ≤ (wrap64 (x5_2 + 32))) = true := decide_eq_true c27
      by_cases c28 : (wrap64 (x5_2 + 32)) ≤ (a0.size : Int)
      rotate_left
      ·rw [if_neg c28] at H
       exact absurd H (by simp)
      rw [if_pos c28] at H
      have c28b0 := eq_true c28
      have c28b1 : decide ((wrap64 (x5_2 + 32)) ≤ (a0.size : Int)) = true := decide_eq_true c28
      by_cases c29 : x372002_2.length < 8796093022208
      rotate_left
      ·rw [if_neg c29] at H
       exact absurd H (by simp)
      rw [if_pos c29] at H
      have LMc29 := Aside0.mk c29
      clear c29
      obtain ⟨y372, hy372⟩ : ∃ y_ : List ByteArray, y_ = (x372002_2 ++ [a0.extract (x5_2 : Int).toNat ((wrap64 (x5_2 + 32)) : Int).toNat]) := ⟨_, rfl⟩
      replace H : (palaverref06_Decode.l0 k2 a0 (wrap64 (x5_2 + 32)) (wrap64 (x6_2 + 1)) (wrap64 (bt a0 0)) (a0.extract 3 35) y372 (⟨#[]⟩ : ByteArray) (⟨#[]⟩ : ByteArray)) = some (r1, r2, r3, r4, r5, r6) := by first | (rw [hy372]; with_reducible exact H) | (have H2_ := (Option.bind_some _ _).symm.trans H; rw [hy372]; with_reducible exact H2_) | (have H2_ := (Option.bind_some _ _).symm.trans H; with_reducible exact H2_) | with_reducible exact H | (rw [hy372]; exact H) | exact H
      have Ny372 := Aside0.mk hy372
      clear hy372
      have H' := Aside0.mk H
      clear H
      have p21 : 0 ≤ (35 : Int) := (by omega)
      have q21 : 35 < a0.size := (by have : (35 : Int) < (a0.size : Int) := od_ (by first | (with_reducible assumption) | assumption); omega)
      have hx21 : ∀ h : 35 < a0.size, ((a0[35]'h).toNat : Int) = bt a0 35 := bt_at a0 35
      clear p21
      have qi21 : (35 < (a0.size : Int)) = True := eq_true (od_ (by first | (with_reducible assumption) | assumption))
      replace q21 := eq_true q21
      try go_wp2
      have n0_ := Aside0.mk (Kd.R_drew HO_372002.out)
      have n1_ := Aside0.mk (blk_drew BK370.out)
      have n2_ := Aside0.mk (blk_drew BK371.out)
      have n3_ := Aside0.mk (below_drew1 HB.out)
      clear HO_372002
      clear BK370
      clear BK371
      clear HB
      have HO_372002 := n0_
      have BK370 := n1_
      have BK371 := n2_
      have HB := n3_
      clear n0_ n1_ n2_ n3_
      refine start_ (n := 11) (S := fun w' => w'.cell? ⟨gb371, 0, none⟩ = some (.int .i64 (wrap64 (bt a0 0))) ∧ w'.cell? ⟨gb371, 1, none⟩ = some (.string (a0.extract 3 35)) ∧ w'.cell? ⟨gb371, 2, none⟩ = some (u372002) ∧ w'.cell? ⟨gb371, 3, none⟩ = some (.string (⟨#[]⟩ : ByteArray)) ∧ w'.cell? ⟨gb371, 4, none⟩ = some (.string (⟨#[]⟩ : ByteArray))) (ds := [10]) #[false, false, false, false, false, false, false, false, false, false, false] (by kernel_rfl) rfl rfl ⟨(blk_cell BK371.out 0).trans rfl, (blk_cell BK371.out 1).trans rfl, (blk_cell BK371.out 2).trans rfl, (blk_cell BK371.out 3).trans rfl, (blk_cell BK371.out 4).trans rfl⟩ (fun hHeld => ?_); refine with_tabW palaverref06_Decode.tab10 palaverref06_Decode.bits10 (fun HT_ HW_ => ?_)
      generalize wr.drew = w30 at HO_372002 BK370 BK371 HB hHeld ⊢
      refine runs_ [(0, some 36), (2, some 38), (3, some 39), (4, some 40), (5, some 41), (6, some 42)] ?_
      iterate 6 (refine pureL_ (v := ?_) (a' := ?_) rfl rfl (any_of HT_.out (by kernel_rfl)) (Or.inl ⟨by rfl, ?_⟩) ?_ ?_ (fun _ _ _ h => h); rotate_left; (intro w'; go_simp; with_reducible rfl); rotate_left; (simp only [pr_]; rfl))
      refine runsE_ ?_
      refine take_ (i := 1) (N := some 37) (v := ?_) (a' := ?_) #[true, true, true, true, true, true, true, false, false, false, false] rfl rfl (take_ofW HT_.out HW_.out (by kernel_rfl)) (fun _ _ _ h => h) (Or.inl ⟨by rfl, ?_⟩) hHeld ?_ ?_
      rotate_left
      ·rintro w' ⟨s0, s1, s2, s3, s4⟩
       go_simp
       with_reducible rfl
      rotate_left
      ·simp only [pr_]
       rfl
      refine one_ (i := 7) (N := some 43) #[true, true, true, true, true, true, true, true, false, false, false] rfl rfl (one_of HT_.out (by kernel_rfl)) (by decide) (fun K hK => ?_)
      refine value_ (w1 := ?_) (v := ?_) (by rfl) rfl ?_ ?_
      rotate_left 2
      ·go_simp
       constructor
       ·rfl
       rfl
      refine hK.out _ _ ⟨(blk_cell (blk_alloc BK371.out _) 0).trans rfl, (blk_cell (blk_alloc BK371.out _) 1).trans rfl, (blk_cell (blk_alloc BK371.out _) 2).trans rfl, (blk_cell (blk_alloc BK371.out _) 3).trans rfl, (blk_cell (blk_alloc BK371.out _) 4).trans rfl⟩ (fun hHeld => ?_)
      clear hK K
      refine norm_ (a' := ?_) ?_ ?_
      rotate_left
      ·show Act.put _ (some 43) _ = _
       simp only [pr_]
       rfl
      refine one_ (i := 8) (N := some 44) #[true, true, true, true, true, true, true, true, true, false, false] rfl rfl (one_of HT_.out (by kernel_rfl)) (by decide) (fun K hK => ?_)
      refine Kd.R_append_step Kd.string (w0 := w) w.heap.size (by rfl) (.tmp 37) (.tmp 43) 22 9 (.string ⟨#[]⟩) 16 rfl Tryd.underlying22 info9 rfl (by decide) (by omega) u372002 x372002_2 (a0.extract (x5_2 : Int).toNat ((wrap64 (x5_2 + 32)) : Int).toNat) [.string (a0.extract (x5_2 : Int).toNat ((wrap64 (x5_2 + 32)) : Int).toNat)] (fun _ => True) (fun _ => False) rfl rfl ?aP (fun _ hk => hk.elim) ?aF ?aO ?aB ?aS ?aL ?_
      (case aP => exact rfl)
      (case aB => exact (by repeat (first | (with_reducible first | exact HB.out | apply lA_ | apply lN_ | apply lD_ | refine lS_ ?_ GE370.out | refine lS_ ?_ GE371.out) | exact HB.out)))
      (case aF => exact (fun _ _ => trivial))
      (case aO => exact (by (with_reducible repeat (first | apply Kd.R_alloc | apply Kd.R_drewN | apply Kd.R_drew)); exact HO_372002.out))
      (case aS => exact (below_size (by repeat (first | (with_reducible first | exact HB.out | apply lA_ | apply lN_ | apply lD_ | refine lS_ ?_ GE370.out | refine lS_ ?_ GE371.out) | exact HB.out))))
      (case aL => have := LMc29.out; omega)
      intro v373 w31 ho hb hg hat
      rw [← Ny372.out] at ho
      have n0_ := Aside0.mk (blk_grown (g := gb370) (o := .cells #[.int .i64 x371000_2, .string x371001_2, .slice none 0 0, .string x371003_2, .string x371004_2] 24 (0, 0)) (by (with_reducible repeat (first | refine bN_ ?_ _ | refine bD_ ?_ | refine bA_ ?_ _)); exact BK370.out) hg (Kd.R_ne HO_372002.out BK370.out (by decide)))
      have n1_ := Aside0.mk (blk_grown (g := gb371) (o := .cells #[.int .i64 (wrap64 (bt a0 0)), .string (a0.extract 3 35), u372002, .string (⟨#[]⟩ : ByteArray), .string (⟨#[]⟩ : ByteArray)] 24 (0, 0)) (by (with_reducible repeat (first | refine bN_ ?_ _ | refine bD_ ?_ | refine bA_ ?_ _)); exact BK371.out) hg (Kd.R_ne HO_372002.out BK371.out (by decide)))
      have n2_ := Aside0.mk (hb)
      have n3_ := Aside0.mk (ho)
      clear BK370
      clear BK371
      clear HB
      clear HO_372002
      have BK370 := n0_
      have BK371 := n1_
      have HB := n2_
      have HO374 := n3_
      clear n0_ n1_ n2_ n3_
      clear ho hb hg hat
      obtain ⟨Ao32, co32, eo32⟩ := Kd.R_slice HO374.out
      (first | subst eo32 | (injection eo32 with f1_ f2_ f3_; have f4_ := f1_.symm; have f5_ := f3_.symm; clear f1_ f2_ f3_; subst f4_; subst f5_))
      refine hK.out _ _ ⟨(blk_cell BK371.out 0).trans rfl, (blk_cell BK371.out 1).trans rfl, (blk_cell BK371.out 2).trans rfl, (blk_cell BK371.out 3).trans rfl, (blk_cell BK371.out 4).trans rfl⟩ (fun hHeld => ?_)
      clear hK K
      refine norm_ (a' := ?_) ?_ ?_
      rotate_left
      ·show Act.put _ (some 44) _ = _
       simp only [pr_]
       rfl
      refine pure_ (i := 9) (N := some 45) (v := ?_) (a' := ?_) #[true, true, true, true, true, true, true, true, true, true, false] rfl rfl (any_of HT_.out (by kernel_rfl)) (fun _ _ _ h => h) (Or.inl ⟨by rfl, ?_⟩) ?_ ?_
      rotate_left
      ·intro w'
       go_simp
       with_reducible rfl
      rotate_left
      ·simp only [pr_]
       rfl
      refine last_ (i := 10) (N := none) #[true, true, true, true, true, true, true, true, true, true, true] rfl rfl (one_of HT_.out (by kernel_rfl)) (by decide) (fun K hK => ?_)
      have hs33 : w31.cell? ⟨gb371, 2, none⟩ = some (u372002) := (blk_cell BK371.out 2).trans rfl
      have hfs33 := blk_frozen BK371.out 2
      have hns33_0 := NB370_371.out
      have hms33_0 := NB371_370.out
      refine skip_ (w1 := ?_) (by rfl) rfl ?_ ?_
      rotate_left
      ·go_simp
       rfl
      refine hK.out _ _ ?_
      clear hK K
      refine done_ (done_of HT_.out (by kernel_rfl)) ?_
      try go_wp2
      go_roundg k2
      case measure => have := HJ1.out; have := HK2.out; omega
      case rel => exact ⟨(wrap64 (x5_2 + 32)), (wrap64 (x6_2 + 1)), (x371000_2), (x371001_2), (x371003_2), (x371004_2), (y372), (.slice Ao32 y372.length co32), (by first | rfl | (simp; done) | (simp [*]; done) | exact congrArg Value.bool (nonempty_l _) | (refine congrArg (Value.int _) ?_; first | omega | (unfold wrap64; omega))), (by first | rfl | (simp; done) | (simp [*]; done) | exact congrArg Value.bool (nonempty_l _) | (refine congrArg (Value.int _) ?_; first | omega | (unfold wrap64; omega))), H', ⟨by have := HJ1.out; have := HK2.out; omega⟩, ⟨by (with_reducible repeat (first | apply Kd.R_alloc | apply Kd.R_drewN | apply Kd.R_drew)); exact Kd.R_mono (Kd.R_far (p := ⟨gb371, 2, none⟩) (Kd.R_types HO374.out BK371.out (by decide)) (fun _ hk => hk.2) (.slice Ao32 y372.length co32)) (fun _ hk => trivial)⟩, ⟨by (with_reducible repeat (first | refine bN_ ?_ _ | refine bD_ ?_ | refine bA_ ?_ _)); refine blk_far ?_ NB370_371.out _; (with_reducible repeat (first | refine bN_ ?_ _ | refine bD_ ?_ | refine bA_ ?_ _)); exact BK370.out⟩, ⟨by (with_reducible repeat (first | refine bN_ ?_ _ | refine bD_ ?_ | refine bA_ ?_ _)); refine blk_put (cs := #[.int .i64 (wrap64 (bt a0 0)), .string (a0.extract 3 35), u372002, .string (⟨#[]⟩ : ByteArray), .string (⟨#[]⟩ : ByteArray)]) ?_ 2 _ rfl; (with_reducible repeat (first | refine bN_ ?_ _ | refine bD_ ?_ | refine bA_ ?_ _)); exact BK371.out⟩, ⟨by repeat (first | (with_reducible first | exact HB.out | apply lA_ | apply lN_ | apply lD_ | refine lS_ ?_ GE370.out | refine lS_ ?_ GE371.out) | exact HB.out)⟩⟩
     rw [if_neg c22] at H
     have c22b0 : decide (x6_2 < (wrap64 (bt a0 35))) = false := decide_eq_false c22
     clear c22
     have HC34 := Aside0.mk H
     clear H
     have p21 : 0 ≤ (35 : Int) := (by omega)
     have q21 : 35 < a0.size := (by have : (35 : Int) < (a0.size : Int) := od_ (by first | (with_reducible assumption) | assumption); omega)
     have hx21 : ∀ h : 35 < a0.size, ((a0[35]'h).toNat : Int) = bt a0 35 := bt_at a0 35
     clear p21
     have qi21 : (35 < (a0.size : Int)) = True := eq_true (od_ (by first | (with_reducible assumption) | assumption))
     replace q21 := eq_true q21
     go_upto_region 12 with (fail)
     go_cut [66] (fun v66 wc => ∃ (kq : Nat) (x66_33 : Bool), v66 = .bool x66_33 ∧ Aside0 (palaverref06_Decode.j2 kq a0 x5_2 x66_33 (wrap64 (bt a0 0)) (a0.extract 3 35) x372002_2 (⟨#[]⟩ : ByteArray) (⟨#[]⟩ : ByteArray) = some (r1, r2, r3, r4, r5, r6)) ∧ Aside0 (kq ≤ k2) ∧ Aside0 (Kd.R Kd.string 9 wc w.heap.size (fun _ => True) u372002 x372002_2) ∧ Aside0 (wc.heap[gb370]? = some (.cells #[.int .i64 x371000_2, .string x371001_2, (.slice none 0 0), .string x371003_2, .string x371004_2] 24 (0, 0))) ∧ Aside0 (wc.heap[gb371]? = some (.cells #[.int .i64 (wrap64 (bt a0 0)), .string (a0.extract 3 35), u372002, .string (⟨#[]⟩ : ByteArray), .string (⟨#[]⟩ : ByteArray)] 24 (0, 0))) ∧ Aside0 (Below w.heap.size w wc))
     case first =>
      have H := HC34.out
      clear HC34
      by_cases c35 : (wrap64 (x5_2 + 2)) > (a0.size : Int)
      ·rw [if_pos c35] at H
       have c35b0 : decide ((a0.size : Int) < (wrap64 (x5_2 + 2))) = true := decide_eq_true c35
       clear c35
       (first | rw [c35b0] | (simp only [i64_w, i32_w]; rw [c35b0]) | skip)
       have H' := Aside0.mk H
       clear H
       go_wp2
       go_meet
       case rel => exact ⟨_, (true), (by first | rfl | (simp; done) | (simp [*]; done) | exact congrArg Value.bool (nonempty_l _) | (refine congrArg (Value.int _) ?_; first | omega | (unfold wrap64; omega))), H', ⟨by have := HJ1.out; have := HK2.out; first | omega | exact Nat.le_refl _⟩, ⟨by (with_reducible repeat (first | apply Kd.R_alloc | apply Kd.R_drewN | apply Kd.R_drew)); exact HO_372002.out⟩, ⟨by (with_reducible repeat (first | refine bN_ ?_ _ | refine bD_ ?_ | refine bA_ ?_ _)); exact BK370.out⟩, ⟨by (with_reducible repeat (first | refine bN_ ?_ _ | refine bD_ ?_ | refine bA_ ?_ _)); exact BK371.out⟩, ⟨by repeat (first | (with_reducible first | exact HB.out | apply lA_ | apply lN_ | apply lD_ | refine lS_ ?_ GE370.out | refine lS_ ?_ GE371.out) | exact HB.out)⟩⟩
      rw [if_neg c35] at H
      have c35b0 : decide ((a0.size : Int) < (wrap64 (x5_2 + 2))) = false := decide_eq_false c35
      clear c35
      (first | rw [c35b0] | (simp only [i64_w, i32_w]; rw [c35b0]) | skip)
      by_cases c36 : 0 ≤ x5_2
      rotate_left
      ·rw [if_neg c36] at H
       exact absurd H (by simp)
      rw [if_pos c36] at H
      have c36b0 := eq_true c36
      have c36b1 : decide (0 ≤ x5_2) = true := decide_eq_true c36
      clear c36
      by_cases c37 : x5_2 ≤ (wrap64 (x5_2 + 2))
      rotate_left
      ·rw [if_neg c37] at H
       exact absurd H (by simp)
      rw [if_pos c37] at H
      have c37b0 := eq_true c37
      have c37b1 : decide (x5_2 ≤ (wrap64 (x5_2 + 2))) = true := decide_eq_true c37
      by_cases c38 : (wrap64 (x5_2 + 2)) ≤ (a0.size : Int)
      rotate_left
      ·rw [if_neg c38] at H
       exact absurd H (by simp)
      rw [if_pos c38] at H
      have c38b0 := eq_true c38
      have c38b1 : decide ((wrap64 (x5_2 + 2)) ≤ (a0.size : Int)) = true := decide_eq_true c38
      replace H := ob_ H
      obtain ⟨t375, A390, H⟩ := H
      replace H : (palaverref06_Decode.j2 k2 a0 x5_2 (decide ((wrap64 ((wrap64 (x5_2 + 2)) + t375)) > (a0.size : Int))) (wrap64 (bt a0 0)) (a0.extract 3 35) x372002_2 (⟨#[]⟩ : ByteArray) (⟨#[]⟩ : ByteArray)) = some (r1, r2, r3, r4, r5, r6) := H
      have A39 := Aside0.mk A390
      clear A390
      have H' := Aside0.mk H
      clear H
      go_wp2_with (first | (go_at_call 35; (with_reducible refine (palaverref01_Value.calls k2 (a0.extract (x5_2 : Int).toNat ((wrap64 (x5_2 + 2)) : Int).toNat) t375 _ A39.out).mono ?_); rintro e w' ⟨rfl, ⟨nd, rfl⟩⟩))
      go_meet
      case rel => exact ⟨_, (decide ((wrap64 ((wrap64 (x5_2 + 2)) + t375)) > (a0.size : Int))), (by first | rfl | (simp; done) | (simp [*]; done) | exact congrArg Value.bool (nonempty_l _) | (refine congrArg (Value.int _) ?_; first | omega | (unfold wrap64; omega))), H', ⟨by have := HJ1.out; have := HK2.out; first | omega | exact Nat.le_refl _⟩, ⟨by (with_reducible repeat (first | apply Kd.R_alloc | apply Kd.R_drewN | apply Kd.R_drew)); exact HO_372002.out⟩, ⟨by (with_reducible repeat (first | refine bN_ ?_ _ | refine bD_ ?_ | refine bA_ ?_ _)); exact BK370.out⟩, ⟨by (with_reducible repeat (first | refine bN_ ?_ _ | refine bD_ ?_ | refine bA_ ?_ _)); exact BK371.out⟩, ⟨by repeat (first | (with_reducible first | exact HB.out | apply lA_ | apply lN_ | apply lD_ | refine lS_ ?_ GE370.out | refine lS_ ?_ GE371.out) | exact HB.out)⟩⟩
     case rest =>
      clear HC34
      (try clear c1); (try clear p1); (try clear q1); (try clear hx1); (try clear qi1); (try clear c2); (try clear p2); (try clear q2); (try clear hx2); (try clear qi2); (try clear c3); (try clear c4); (try clear c4b0); (try clear c4b1); (try clear c5); (try clear c5b0); (try clear c5b1); (try clear c6); (try clear c6b0); (try clear c6b1); (try clear p6); (try clear c7); (try clear c9); (try clear c9b0); (try clear c9b1); (try clear p10); (try clear q10); (try clear hx10); (try clear qi10); (try clear c11); (try clear c11b0); (try clear c11b1); (try clear c12); (try clear c12b0); (try clear c12b1); (try clear c18); (try clear c20); (try clear c20b0); (try clear c20b1); (try clear p21); (try clear q21); (try clear hx21); (try clear qi21); (try clear c22); (try clear c22b0); (try clear c23); (try clear c23b0); (try clear c24); (try clear c26); (try clear c26b0); (try clear c26b1); (try clear c27); (try clear c27b0); (try clear c27b1); (try clear c28); (try clear c28b0); (try clear c28b1); (try clear c29); (try clear c35); (try clear c35b0); (try clear c36); (try clear c36b0); (try clear c36b1); (try clear c37); (try clear c37b0); (try clear c37b1); (try clear c38); (try clear c38b0); (try clear c38b1); (try clear hcz25_0); (try clear hcz25_1); (try clear hcz25_2); (try clear hcz25_3); (try clear hcz25_4); (try clear hcz8_0); (try clear hcz8_1); (try clear hcz8_2); (try clear hcz8_3); (try clear hcz8_4); (try clear hfz25_0); (try clear hfz25_1); (try clear hfz25_2); (try clear hfz25_3); (try clear hfz25_4); (try clear hfz8_0); (try clear hfz8_1); (try clear hfz8_2); (try clear hfz8_3); (try clear hfz8_4); (try clear p1); (try clear p10); (try clear p2); (try clear p21); (try clear p6); (try clear q1); (try clear q10); (try clear q21)
      obtain ⟨kq, x66_33, rfl, HA, HJ33, HO_372002, BK370, BK371, HB⟩ := hcut
      cases kq with
      | zero => exact absurd HA.out (by simp [palaverref06_Decode.j2])
      | succ kj33 =>
       have H := HA.out
       clear HA
       simp only [palaverref06_Decode.j2] at H
       by_cases c40 : x66_33 = true
       ·subst c40
        have H1 : (some (0, (⟨#[]⟩ : ByteArray), ([] : List ByteArray), (⟨#[]⟩ : ByteArray), (⟨#[]⟩ : ByteArray), false)) = some (r1, r2, r3, r4, r5, r6) := by rw [if_pos rfl] at H; exact H
        clear H
        have H := H1
        clear H1
        simp only [Option.some.injEq, Prod.mk.injEq] at H
        obtain ⟨rfl, rfl, rfl, rfl, rfl, rfl⟩ := H
        have hnb41 := NB370_371.out
        have hnc41 := NB371_370.out
        obtain ⟨hcz42_0, hcz42_1, hcz42_2, hcz42_3, hcz42_4⟩ := c5_ BK370.out
        obtain ⟨hfz42_0, hfz42_1, hfz42_2, hfz42_3, hfz42_4⟩ := f5_ BK370.out
        go_wp2
        refine bodyPost_ret (results_ct rfl _ _ gb370 24 #[.int .i64 0, .string (⟨#[]⟩ : ByteArray), .slice none 0 0, .string (⟨#[]⟩ : ByteArray), .string (⟨#[]⟩ : ByteArray)] (0, 0) _ rfl (by (with_reducible repeat (first | refine bN_ ?_ _ | refine bD_ ?_ | refine bA_ ?_ _)); refine blk_put (cs := #[.int .i64 0, .string (⟨#[]⟩ : ByteArray), .slice none 0 0, .string (⟨#[]⟩ : ByteArray), .string x371004_2]) ?_ 4 _ rfl; (with_reducible repeat (first | refine bN_ ?_ _ | refine bD_ ?_ | refine bA_ ?_ _)); refine blk_put (cs := #[.int .i64 0, .string (⟨#[]⟩ : ByteArray), .slice none 0 0, .string x371003_2, .string x371004_2]) ?_ 3 _ rfl; (with_reducible repeat (first | refine bN_ ?_ _ | refine bD_ ?_ | refine bA_ ?_ _)); refine blk_put (cs := #[.int .i64 0, .string (⟨#[]⟩ : ByteArray), .slice none 0 0, .string x371003_2, .string x371004_2]) ?_ 2 _ rfl; (with_reducible repeat (first | refine bN_ ?_ _ | refine bD_ ?_ | refine bA_ ?_ _)); refine blk_put (cs := #[.int .i64 0, .string x371001_2, .slice none 0 0, .string x371003_2, .string x371004_2]) ?_ 1 _ rfl; (with_reducible repeat (first | refine bN_ ?_ _ | refine bD_ ?_ | refine bA_ ?_ _)); refine blk_put (cs := #[.int .i64 x371000_2, .string x371001_2, .slice none 0 0, .string x371003_2, .string x371004_2]) ?_ 0 _ rfl; (with_reducible repeat (first | refine bN_ ?_ _ | refine bD_ ?_ | refine bA_ ?_ _)); exact BK370.out) Tryd.underlying24 rfl (by kernel_rfl)) rfl ?_
        exact ⟨_, by first | rfl | (simp [errW_none, errW_some] <;> rfl) | (simp [*, errW_none, errW_some] <;> rfl), by first | exact Kd.R_nil _ _ _ _ _ | exact Kd.N_nil _ _ _ _ _ | exact Kd.V_nil _ _ _ _ _ | exact Kd.Q_nil _ _ _ _ _ | exact Kd.S_nil _ _ _ _ _, by repeat (first | (with_reducible first | exact HB.out | apply lA_ | apply lN_ | apply lD_ | refine lS_ ?_ GE370.out | refine lS_ ?_ GE371.out) | exact HB.out)⟩
       replace c40 := Bool.eq_false_iff.mpr c40
       subst c40
       have H1 : (if 0 ≤ x5_2 then (if x5_2 ≤ (wrap64 (x5_2 + 2)) then (if (wrap64 (x5_2 + 2)) ≤ (a0.size : Int) then ((palaverref01_Value.f kj33 (a0.extract (x5_2 : Int).toNat ((wrap64 (x5_2 + 2)) : Int).toNat)).bind fun t376 => (if 0 ≤ (wrap64 (x5_2 + 2)) then (if (wrap64 (x5_2 + 2)) ≤ (wrap64 ((wrap64 (x5_2 + 2)) + t376)) then (if (wrap64 ((wrap64 (x5_2 + 2)) + t376)) ≤ (a0.size : Int) then (if (wrap64 ((wrap64 ((wrap64 (x5_2 + 2)) + t376)) + 2)) > (a0.size : Int) then (some (0, (⟨#[]⟩ : ByteArray), ([] : List ByteArray), (⟨#[]⟩ : ByteArray), (⟨#[]⟩ : ByteArray), false)) else (if 0 ≤ (wrap64 ((wrap64 ((wrap64 (x5_2 + 2)) + t376)) + 2)) then (if (wrap64 ((wrap64 ((wrap64 (x5_2 + 2)) + t376)) + 2)) ≤ (a0.size : Int) then ((palaverref06_Right.f kj33 (wrap64 (bt a0 0)) (a0.extract 3 35) x372002_2 (a0.extract ((wrap64 (x5_2 + 2)) : Int).toNat ((wrap64 ((wrap64 (x5_2 + 2)) + t376)) : Int).toNat) (a0.extract ((wrap64 ((wrap64 ((wrap64 (x5_2 + 2)) + t376)) + 2)) : Int).toNat a0.size)).bind fun t377 => (if t377 = true then ((palaverref06_Encode.f kj33 (wrap64 (bt a0 0)) (a0.extract 3 35) x372002_2 (a0.extract ((wrap64 (x5_2 + 2)) : Int).toNat ((wrap64 ((wrap64 (x5_2 + 2)) + t376)) : Int).toNat) (a0.extract ((wrap64 ((wrap64 ((wrap64 (x5_2 + 2)) + t376)) + 2)) : Int).toNat a0.size)).bind fun t378 => (if t378.toList = a0.toList then (some ((wrap64 (bt a0 0)), (a0.extract 3 35), x372002_2, a0.extract ((wrap64 (x5_2 + 2)) : Int).toNat ((wrap64 ((wrap64 (x5_2 + 2)) + t376)) : Int).toNat, a0.extract ((wrap64 ((wrap64 ((wrap64 (x5_2 + 2)) + t376)) + 2)) : Int).toNat a0.size, true)) else (some (0, (⟨#[]⟩ : ByteArray), ([] : List ByteArray), (⟨#[]⟩ : ByteArray), (⟨#[]⟩ : ByteArray), false)))) else (some (0, (⟨#[]⟩ : ByteArray), ([] : List ByteArray), (⟨#[]⟩ : ByteArray), (⟨#[]⟩ : ByteArray), false)))) else (none)) else (none))) else (none)) else (none)) else (none))) else (none)) else (none)) else (none)) = some (r1, r2, r3, r4, r5, r6) := by rw [if_neg (show ¬ (false = true) by decide)] at H; exact H
       clear H
       have H := H1
       clear H1
       by_cases c43 : 0 ≤ x5_2
       rotate_left
       ·rw [if_neg c43] at H
        exact absurd H (by simp)
       rw [if_pos c43] at H
       have c43b0 := eq_true c43
       have c43b1 : decide (0 ≤ x5_2) = true := decide_eq_true c43
       clear c43
       by_cases c44 : x5_2 ≤ (wrap64 (x5_2 + 2))
       rotate_left
       ·rw [if_neg c44] at H
        exact absurd H (by simp)
       rw [if_pos c44] at H
       have c44b0 := eq_true c44
       have c44b1 : decide (x5_2 ≤ (wrap64 (x5_2 + 2))) = true := decide_eq_true c44
       by_cases c45 : (wrap64 (x5_2 + 2)) ≤ (a0.size : Int)
       rotate_left
       ·rw [if_neg c45] at H
        exact absurd H (by simp)
       rw [if_pos c45] at H
       have c45b0 := eq_true c45
       have c45b1 : decide ((wrap64 (x5_2 + 2)) ≤ (a0.size : Int)) = true := decide_eq_true c45
       replace H := ob_ H
       obtain ⟨t376, A460, H⟩ := H
       replace H : (if 0 ≤ (wrap64 (x5_2 + 2)) then (if (wrap64 (x5_2 + 2)) ≤ (wrap64 ((wrap64 (x5_2 + 2)) + t376)) then (if (wrap64 ((wrap64 (x5_2 + 2)) + t376)) ≤ (a0.size : Int) then (if (wrap64 ((wrap64 ((wrap64 (x5_2 + 2)) + t376)) + 2)) > (a0.size : Int) then (some (0, (⟨#[]⟩ : ByteArray), ([] : List ByteArray), (⟨#[]⟩ : ByteArray), (⟨#[]⟩ : ByteArray), false)) else (if 0 ≤ (wrap64 ((wrap64 ((wrap64 (x5_2 + 2)) + t376)) + 2)) then (if (wrap64 ((wrap64 ((wrap64 (x5_2 + 2)) + t376)) + 2)) ≤ (a0.size : Int) then ((palaverref06_Right.f kj33 (wrap64 (bt a0 0)) (a0.extract 3 35) x372002_2 (a0.extract ((wrap64 (x5_2 + 2)) : Int).toNat ((wrap64 ((wrap64 (x5_2 + 2)) + t376)) : Int).toNat) (a0.extract ((wrap64 ((wrap64 ((wrap64 (x5_2 + 2)) + t376)) + 2)) : Int).toNat a0.size)).bind fun t377 => (if t377 = true then ((palaverref06_Encode.f kj33 (wrap64 (bt a0 0)) (a0.extract 3 35) x372002_2 (a0.extract ((wrap64 (x5_2 + 2)) : Int).toNat ((wrap64 ((wrap64 (x5_2 + 2)) + t376)) : Int).toNat) (a0.extract ((wrap64 ((wrap64 ((wrap64 (x5_2 + 2)) + t376)) + 2)) : Int).toNat a0.size)).bind fun t378 => (if t378.toList = a0.toList then (some ((wrap64 (bt a0 0)), (a0.extract 3 35), x372002_2, a0.extract ((wrap64 (x5_2 + 2)) : Int).toNat ((wrap64 ((wrap64 (x5_2 + 2)) + t376)) : Int).toNat, a0.extract ((wrap64 ((wrap64 ((wrap64 (x5_2 + 2)) + t376)) + 2)) : Int).toNat a0.size, true)) else (some (0, (⟨#[]⟩ : ByteArray), ([] : List ByteArray), (⟨#[]⟩ : ByteArray), (⟨#[]⟩ : ByteArray), false)))) else (some (0, (⟨#[]⟩ : ByteArray), ([] : List ByteArray), (⟨#[]⟩ : ByteArray), (⟨#[]⟩ : ByteArray), false)))) else (none)) else (none))) else (none)) else (none)) else (none)) = some (r1, r2, r3, r4, r5, r6) := H
       have A46 := Aside0.mk A460
       clear A460
       obtain ⟨ji47, hji47⟩ : ∃ j_ : Int, (wrap64 (x5_2 + 2)) = j_ := ⟨_, rfl⟩
       replace H : (if 0 ≤ (ji47) then (if (ji47) ≤ (wrap64 ((ji47) + t376)) then (if (wrap64 ((ji47) + t376)) ≤ (a0.size : Int) then (if (wrap64 ((wrap64 ((ji47) + t376)) + 2)) > (a0.size : Int) then (some (0, (⟨#[]⟩ : ByteArray), ([] : List ByteArray), (⟨#[]⟩ : ByteArray), (⟨#[]⟩ : ByteArray), false)) else (if 0 ≤ (wrap64 ((wrap64 ((ji47) + t376)) + 2)) then (if (wrap64 ((wrap64 ((ji47) + t376)) + 2)) ≤ (a0.size : Int) then ((palaverref06_Right.f kj33 (wrap64 (bt a0 0)) (a0.extract 3 35) x372002_2 (a0.extract ((ji47) : Int).toNat ((wrap64 ((ji47) + t376)) : Int).toNat) (a0.extract ((wrap64 ((wrap64 ((ji47) + t376)) + 2)) : Int).toNat a0.size)).bind fun t377 => (if t377 = true then ((palaverref06_Encode.f kj33 (wrap64 (bt a0 0)) (a0.extract 3 35) x372002_2 (a0.extract ((ji47) : Int).toNat ((wrap64 ((ji47) + t376)) : Int).toNat) (a0.extract ((wrap64 ((wrap64 ((ji47) + t376)) + 2)) : Int).toNat a0.size)).bind fun t378 => (if t378.toList = a0.toList then (some ((wrap64 (bt a0 0)), (a0.extract 3 35), x372002_2, a0.extract ((ji47) : Int).toNat ((wrap64 ((ji47) + t376)) : Int).toNat, a0.extract ((wrap64 ((wrap64 ((ji47) + t376)) + 2)) : Int).toNat a0.size, true)) else (some (0, (⟨#[]⟩ : ByteArray), ([] : List ByteArray), (⟨#[]⟩ : ByteArray), (⟨#[]⟩ : ByteArray), false)))) else (some (0, (⟨#[]⟩ : ByteArray), ([] : List ByteArray), (⟨#[]⟩ : ByteArray), (⟨#[]⟩ : ByteArray), false)))) else (none)) else (none))) else (none)) else (none)) else (none)) = some (r1, r2, r3, r4, r5, r6) := by first | (rw [hji47] at H; exact H) | (simp only [hji47] at H ⊢; exact H)
       (try rw [hji47] at c44b0)
       (try rw [hji47] at c44b1)
       (try rw [hji47] at c44)
       (try rw [hji47] at c45b0)
       (try rw [hji47] at c45b1)
       (try rw [hji47] at c45)
       (try rw [hji47] at A46)
       have hji47w : (IntKind.i64.wrap (x5_2 + 2)) = ji47 := (i64_w _).trans hji47
       by_cases c48 : 0 ≤ (ji47)
       rotate_left
       ·rw [if_neg c48] at H
        exact absurd H (by simp)
       rw [if_pos c48] at H
       have c48b0 := eq_true c48
       have c48b1 : decide (0 ≤ (ji47)) = true := decide_eq_true c48
       clear c48
       by_cases c49 : (ji47) ≤ (wrap64 ((ji47) + t376))
       rotate_left
       ·rw [if_neg c49] at H
        exact absurd H (by simp)
       rw [if_pos c49] at H
       have c49b0 := eq_true c49
       have c49b1 : decide ((ji47) ≤ (wrap64 ((ji47) + t376))) = true := decide_eq_true c49
       by_cases c50 : (wrap64 ((ji47) + t376)) ≤ (a0.size : Int)
       rotate_left
       ·rw [if_neg c50] at H
        exact absurd H (by simp)
       rw [if_pos c50] at H
       have c50b0 := eq_true c50
       have c50b1 : decide ((wrap64 ((ji47) + t376)) ≤ (a0.size : Int)) = true := decide_eq_true c50
       by_cases c51 : (wrap64 ((wrap64 ((ji47) + t376)) + 2)) > (a0.size : Int)
       ·rw [if_pos c51] at H
        have c51b0 : decide ((a0.size : Int) < (wrap64 ((wrap64 ((ji47) + t376)) + 2))) = true := decide_eq_true c51
        clear c51
        simp only [Option.some.injEq, Prod.mk.injEq] at H
        obtain ⟨rfl, rfl, rfl, rfl, rfl, rfl⟩ := H
        go_wp2_with (first | ((with_reducible refine gate_callee (f := 35) rfl ?_); refine goesL_ (some 73) rfl rfl Tryd.func35 (by kernel_rfl) rfl #[.string (a0.extract (x5_2 : Int).toNat ((ji47) : Int).toNat)] rfl (by (try simp only [List.map_toArray, List.map_cons, List.map_nil]); first | done | (simp only [hji47]; rfl) | rfl | (simp only [List.length_drop, List.length_take]; rfl)) ?_; (with_reducible refine (palaverref01_Value.calls kj33 (a0.extract (x5_2 : Int).toNat ((ji47) : Int).toNat) t376 _ A46.out).mono ?_); rintro e w' ⟨rfl, ⟨nd, rfl⟩⟩; refine ⟨_, rfl, ?_⟩; (try (rw [drewN_self wc]; generalize hq_ : World.drewN wc _ = wc; have n0_ : Aside0 (Kd.R Kd.string 9 wc w.heap.size (fun _ => True) u372002 x372002_2) := ⟨by rw [← hq_]; exact (by (with_reducible repeat (first | apply Kd.R_alloc | apply Kd.R_drewN | apply Kd.R_drew)); exact HO_372002.out)⟩; have n1_ : Aside0 (wc.heap[gb370]? = some (.cells #[.int .i64 x371000_2, .string x371001_2, .slice none 0 0, .string x371003_2, .string x371004_2] 24 (0, 0))) := ⟨by rw [← hq_]; exact (by (with_reducible repeat (first | refine bN_ ?_ _ | refine bD_ ?_ | refine bA_ ?_ _)); exact BK370.out)⟩; have n2_ : Aside0 (wc.heap[gb371]? = some (.cells #[.int .i64 (wrap64 (bt a0 0)), .string (a0.extract 3 35), u372002, .string (⟨#[]⟩ : ByteArray), .string (⟨#[]⟩ : ByteArray)] 24 (0, 0))) := ⟨by rw [← hq_]; exact (by (with_reducible repeat (first | refine bN_ ?_ _ | refine bD_ ?_ | refine bA_ ?_ _)); exact BK371.out)⟩; have n3_ : Aside0 (Below w.heap.size w wc) := ⟨by rw [← hq_]; exact (by repeat (first | (with_reducible first | exact HB.out | apply lA_ | apply lN_ | apply lD_ | refine lS_ ?_ GE370.out | refine lS_ ?_ GE371.out) | exact HB.out))⟩; clear HO_372002 BK370 BK371 HB hq_; have HO_372002 := n0_; have BK370 := n1_; have BK371 := n2_; have HB := n3_; clear n0_ n1_ n2_ n3_; have hfu370 := blk_frozen BK370.out; have hcu370 := blk_cell BK370.out; have hfu371 := blk_frozen BK371.out; have hcu371 := blk_cell BK371.out)); have hnb52 := NB371_370.out; have hnc52 := NB370_371.out; obtain ⟨hcz53_0, hcz53_1, hcz53_2, hcz53_3, hcz53_4⟩ := c5_ BK371.out; obtain ⟨hfz53_0, hfz53_1, hfz53_2, hfz53_3, hfz53_4⟩ := f5_ BK371.out; obtain ⟨hcz54_0, hcz54_1, hcz54_2, hcz54_3, hcz54_4⟩ := c5_ BK370.out; obtain ⟨hfz54_0, hfz54_1, hfz54_2, hfz54_3, hfz54_4⟩ := f5_ BK370.out))
        refine bodyPost_ret (results_ct rfl _ _ gb370 24 #[.int .i64 0, .string (⟨#[]⟩ : ByteArray), .slice none 0 0, .string (⟨#[]⟩ : ByteArray), .string (⟨#[]⟩ : ByteArray)] (0, 0) _ rfl (by (with_reducible repeat (first | refine bN_ ?_ _ | refine bD_ ?_ | refine bA_ ?_ _)); refine blk_put (cs := #[.int .i64 0, .string (⟨#[]⟩ : ByteArray), .slice none 0 0, .string (⟨#[]⟩ : ByteArray), .string x371004_2]) ?_ 4 _ rfl; (with_reducible repeat (first | refine bN_ ?_ _ | refine bD_ ?_ | refine bA_ ?_ _)); refine blk_put (cs := #[.int .i64 0, .string (⟨#[]⟩ : ByteArray), .slice none 0 0, .string x371003_2, .string x371004_2]) ?_ 3 _ rfl; (with_reducible repeat (first | refine bN_ ?_ _ | refine bD_ ?_ | refine bA_ ?_ _)); refine blk_put (cs := #[.int .i64 0, .string (⟨#[]⟩ : ByteArray), .slice none 0 0, .string x371003_2, .string x371004_2]) ?_ 2 _ rfl; (with_reducible repeat (first | refine bN_ ?_ _ | refine bD_ ?_ | refine bA_ ?_ _)); refine blk_put (cs := #[.int .i64 0, .string x371001_2, .slice none 0 0, .string x371003_2, .string x371004_2]) ?_ 1 _ rfl; (with_reducible repeat (first | refine bN_ ?_ _ | refine bD_ ?_ | refine bA_ ?_ _)); refine blk_put (cs := #[.int .i64 x371000_2, .string x371001_2, .slice none 0 0, .string x371003_2, .string x371004_2]) ?_ 0 _ rfl; (with_reducible repeat (first | refine bN_ ?_ _ | refine bD_ ?_ | refine bA_ ?_ _)); refine blk_far ?_ NB370_371.out _; (with_reducible repeat (first | refine bN_ ?_ _ | refine bD_ ?_ | refine bA_ ?_ _)); exact BK370.out) Tryd.underlying24 rfl (by kernel_rfl)) rfl ?_
        exact ⟨_, by first | rfl | (simp [errW_none, errW_some] <;> rfl) | (simp only [← hji47]; first | rfl | (simp [errW_none, errW_some] <;> rfl)) | (simp [*, errW_none, errW_some] <;> rfl), by first | exact Kd.R_nil _ _ _ _ _ | exact Kd.N_nil _ _ _ _ _ | exact Kd.V_nil _ _ _ _ _ | exact Kd.Q_nil _ _ _ _ _ | exact Kd.S_nil _ _ _ _ _, by repeat (first | (with_reducible first | exact HB.out | apply lA_ | apply lN_ | apply lD_ | refine lS_ ?_ GE370.out | refine lS_ ?_ GE371.out) | exact HB.out)⟩
       rw [if_neg c51] at H
       have c51b0 : decide ((a0.size : Int) < (wrap64 ((wrap64 ((ji47) + t376)) + 2))) = false := decide_eq_false c51
       clear c51
       obtain ⟨ji55, hji55⟩ : ∃ j_ : Int, (wrap64 ((wrap64 ((ji47) + t376)) + 2)) = j_ := ⟨_, rfl⟩
       replace H : (if 0 ≤ (ji55) then (if (ji55) ≤ (a0.size : Int) then ((palaverref06_Right.f kj33 (wrap64 (bt a0 0)) (a0.extract 3 35) x372002_2 (a0.extract ((ji47) : Int).toNat ((wrap64 ((ji47) + t376)) : Int).toNat) (a0.extract ((ji55) : Int).toNat a0.size)).bind fun t377 => (if t377 = true then ((palaverref06_Encode.f kj33 (wrap64 (bt a0 0)) (a0.extract 3 35) x372002_2 (a0.extract ((ji47) : Int).toNat ((wrap64 ((ji47) + t376)) : Int).toNat) (a0.extract ((ji55) : Int).toNat a0.size)).bind fun t378 => (if t378.toList = a0.toList then (some ((wrap64 (bt a0 0)), (a0.extract 3 35), x372002_2, a0.extract ((ji47) : Int).toNat ((wrap64 ((ji47) + t376)) : Int).toNat, a0.extract ((ji55) : Int).toNat a0.size, true)) else (some (0, (⟨#[]⟩ : ByteArray), ([] : List ByteArray), (⟨#[]⟩ : ByteArray), (⟨#[]⟩ : ByteArray), false)))) else (some (0, (⟨#[]⟩ : ByteArray), ([] : List ByteArray), (⟨#[]⟩ : ByteArray), (⟨#[]⟩ : ByteArray), false)))) else (none)) else (none)) = some (r1, r2, r3, r4, r5, r6) := by first | (rw [hji55] at H; exact H) | (simp only [hji55] at H ⊢; exact H)
       (try rw [hji55] at c51b0)
       (try rw [hji55] at A46)
       have hji55w : (IntKind.i64.wrap ((wrap64 ((ji47) + t376)) + 2)) = ji55 := (i64_w _).trans hji55
       by_cases c56 : 0 ≤ (ji55)
       rotate_left
       ·rw [if_neg c56] at H
        exact absurd H (by simp)
       rw [if_pos c56] at H
       have c56b0 := eq_true c56
       have c56b1 : decide (0 ≤ (ji55)) = true := decide_eq_true c56
       clear c56
       by_cases c57 : (ji55) ≤ (a0.size : Int)
       rotate_left
       ·rw [if_neg c57] at H
        exact absurd H (by simp)
       rw [if_pos c57] at H
       have c57b0 := eq_true c57
       have c57b1 : decide ((ji55) ≤ (a0.size : Int)) = true := decide_eq_true c57
       clear c57
       replace H := ob_ H
       obtain ⟨t377, A580, H⟩ := H
       replace H : (if t377 = true then ((palaverref06_Encode.f kj33 (wrap64 (bt a0 0)) (a0.extract 3 35) x372002_2 (a0.extract ((ji47) : Int).toNat ((wrap64 ((ji47) + t376)) : Int).toNat) (a0.extract ((ji55) : Int).toNat a0.size)).bind fun t378 => (if t378.toList = a0.toList then (some ((wrap64 (bt a0 0)), (a0.extract 3 35), x372002_2, a0.extract ((ji47) : Int).toNat ((wrap64 ((ji47) + t376)) : Int).toNat, a0.extract ((ji55) : Int).toNat a0.size, true)) else (some (0, (⟨#[]⟩ : ByteArray), ([] : List ByteArray), (⟨#[]⟩ : ByteArray), (⟨#[]⟩ : ByteArray), false)))) else (some (0, (⟨#[]⟩ : ByteArray), ([] : List ByteArray), (⟨#[]⟩ : ByteArray), (⟨#[]⟩ : ByteArray), false))) = some (r1, r2, r3, r4, r5, r6) := H
       have A58 := Aside0.mk A580
       clear A580
       by_cases c59 : t377 = true
       ·subst c59
        have H1 : ((palaverref06_Encode.f kj33 (wrap64 (bt a0 0)) (a0.extract 3 35) x372002_2 (a0.extract ((ji47) : Int).toNat ((wrap64 ((ji47) + t376)) : Int).toNat) (a0.extract ((ji55) : Int).toNat a0.size)).bind fun t378 => (if t378.toList = a0.toList then (some ((wrap64 (bt a0 0)), (a0.extract 3 35), x372002_2, a0.extract ((ji47) : Int).toNat ((wrap64 ((ji47) + t376)) : Int).toNat, a0.extract ((ji55) : Int).toNat a0.size, true)) else (some (0, (⟨#[]⟩ : ByteArray), ([] : List ByteArray), (⟨#[]⟩ : ByteArray), (⟨#[]⟩ : ByteArray), false)))) = some (r1, r2, r3, r4, r5, r6) := by rw [if_pos rfl] at H; exact H
        clear H
        have H := H1
        clear H1
        replace H := ob_ H
        obtain ⟨t378, A600, H⟩ := H
        replace H : (if t378.toList = a0.toList then (some ((wrap64 (bt a0 0)), (a0.extract 3 35), x372002_2, a0.extract ((ji47) : Int).toNat ((wrap64 ((ji47) + t376)) : Int).toNat, a0.extract ((ji55) : Int).toNat a0.size, true)) else (some (0, (⟨#[]⟩ : ByteArray), ([] : List ByteArray), (⟨#[]⟩ : ByteArray), (⟨#[]⟩ : ByteArray), false))) = some (r1, r2, r3, r4, r5, r6) := H
        have A60 := Aside0.mk A600
        clear A600
        by_cases c61 : t378.toList = a0.toList
        ·rw [if_pos c61] at H
         have c61b0 : (t378.toList == a0.toList) = true := beq_iff_eq.mpr c61
         have c61b1 : (t378.toList != a0.toList) = false := bne_eq_false_iff_eq.mpr c61
         clear c61
         simp only [Option.some.injEq, Prod.mk.injEq] at H
         obtain ⟨rfl, rfl, rfl, rfl, rfl, rfl⟩ := H
         go_wp2_with (first | ((with_reducible refine gate_callee (f := 35) rfl ?_); refine goesL_ (some 73) rfl rfl Tryd.func35 (by kernel_rfl) rfl #[.string (a0.extract (x5_2 : Int).toNat ((ji47) : Int).toNat)] rfl (by (try simp only [List.map_toArray, List.map_cons, List.map_nil]); first | done | (simp only [hji47]; rfl) | rfl | (simp only [List.length_drop, List.length_take]; rfl)) ?_; (with_reducible refine (palaverref01_Value.calls kj33 (a0.extract (x5_2 : Int).toNat ((ji47) : Int).toNat) t376 _ A46.out).mono ?_); rintro e w' ⟨rfl, ⟨nd, rfl⟩⟩; refine ⟨_, rfl, ?_⟩; (try (rw [drewN_self wc]; generalize hq_ : World.drewN wc _ = wc; have n0_ : Aside0 (Kd.R Kd.string 9 wc w.heap.size (fun _ => True) u372002 x372002_2) := ⟨by rw [← hq_]; exact (by (with_reducible repeat (first | apply Kd.R_alloc | apply Kd.R_drewN | apply Kd.R_drew)); exact HO_372002.out)⟩; have n1_ : Aside0 (wc.heap[gb370]? = some (.cells #[.int .i64 x371000_2, .string x371001_2, .slice none 0 0, .string x371003_2, .string x371004_2] 24 (0, 0))) := ⟨by rw [← hq_]; exact (by (with_reducible repeat (first | refine bN_ ?_ _ | refine bD_ ?_ | refine bA_ ?_ _)); exact BK370.out)⟩; have n2_ : Aside0 (wc.heap[gb371]? = some (.cells #[.int .i64 (wrap64 (bt a0 0)), .string (a0.extract 3 35), u372002, .string (⟨#[]⟩ : ByteArray), .string (⟨#[]⟩ : ByteArray)] 24 (0, 0))) := ⟨by rw [← hq_]; exact (by (with_reducible repeat (first | refine bN_ ?_ _ | refine bD_ ?_ | refine bA_ ?_ _)); exact BK371.out)⟩; have n3_ : Aside0 (Below w.heap.size w wc) := ⟨by rw [← hq_]; exact (by repeat (first | (with_reducible first | exact HB.out | apply lA_ | apply lN_ | apply lD_ | refine lS_ ?_ GE370.out | refine lS_ ?_ GE371.out) | exact HB.out))⟩; clear HO_372002 BK370 BK371 HB hq_; have HO_372002 := n0_; have BK370 := n1_; have BK371 := n2_; have HB := n3_; clear n0_ n1_ n2_ n3_; have hfu370 := blk_frozen BK370.out; have hcu370 := blk_cell BK370.out; have hfu371 := blk_frozen BK371.out; have hcu371 := blk_cell BK371.out)); have hnb62 := NB371_370.out; have hnc62 := NB370_371.out; obtain ⟨hcz63_0, hcz63_1, hcz63_2, hcz63_3, hcz63_4⟩ := c5_ BK371.out; obtain ⟨hfz63_0, hfz63_1, hfz63_2, hfz63_3, hfz63_4⟩ := f5_ BK371.out; obtain ⟨Ao64, co64, eo64⟩ := Kd.R_slice HO_372002.out; subst eo64) | ((with_reducible refine gate_callee (f := 14) rfl ?_); refine goesL_ (some 99) rfl rfl Tryd.func14 (by kernel_rfl) rfl #[.agg #[.int .i64 (wrap64 (bt a0 0)), .string (a0.extract 3 35), .slice Ao64 x372002_2.length co64, .string (a0.extract ((ji47) : Int).toNat ((wrap64 ((ji47) + t376)) : Int).toNat), .string (a0.extract ((ji55) : Int).toNat a0.size)]] rfl (by (try simp only [List.map_toArray, List.map_cons, List.map_nil]); first | done | (simp only [hji47, hji55]; rfl) | rfl | (simp only [List.length_drop, List.length_take]; rfl)) ?_; (with_reducible refine (palaverref06_Right.calls kj33 (wrap64 (bt a0 0)) (a0.extract 3 35) _ _ x372002_2 (a0.extract ((ji47) : Int).toNat ((wrap64 ((ji47) + t376)) : Int).toNat) (a0.extract ((ji55) : Int).toNat a0.size) true _ ?side1 ?side2 A58.out).mono ?_); (case side1 => refine (Kd.R_reads' (e := 9) (base := w.heap.size) (ok := fun k_ => True) (n := x372002_2.length) (c := co64) ?_).2.2; exact (by (with_reducible repeat (first | apply Kd.R_alloc | apply Kd.R_drewN | apply Kd.R_drew)); exact (Kd.R_mono (Kd.R_far (p := ⟨gb371, 4, none⟩) (Kd.R_far (p := ⟨gb371, 3, none⟩) (Kd.R_types HO_372002.out BK371.out (by decide)) (fun _ hk => hk.2) (.string (a0.extract ((ji47) : Int).toNat ((wrap64 ((ji47) + t376)) : Int).toNat))) (fun _ hk => hk.2) (.string (a0.extract ((ji55) : Int).toNat a0.size))) (fun _ h_ => h_.1)))); (case side2 => exact (Kd.R_reads' HO_372002.out).2.1); rintro e w65 ⟨rfl, hb⟩; refine ⟨_, rfl, ?_⟩; have n0_ := Aside0.mk (Kd.R_below (by (with_reducible repeat (first | apply Kd.R_alloc | apply Kd.R_drewN | apply Kd.R_drew)); exact (Kd.R_mono (Kd.R_far (p := ⟨gb371, 4, none⟩) (Kd.R_far (p := ⟨gb371, 3, none⟩) (Kd.R_types HO_372002.out BK371.out (by decide)) (fun _ hk => hk.2) (.string (a0.extract ((ji47) : Int).toNat ((wrap64 ((ji47) + t376)) : Int).toNat))) (fun _ hk => hk.2) (.string (a0.extract ((ji55) : Int).toNat a0.size))) (fun _ h_ => h_.1))) hb); have n1_ := Aside0.mk (blk_below (g := gb370) (o := .cells #[.int .i64 x371000_2, .string x371001_2, .slice none 0 0, .string x371003_2, .string x371004_2] 24 (0, 0)) (by (with_reducible repeat (first | refine bN_ ?_ _ | refine bD_ ?_ | refine bA_ ?_ _)); refine blk_far ?_ NB370_371.out _; (with_reducible repeat (first | refine bN_ ?_ _ | refine bD_ ?_ | refine bA_ ?_ _)); refine blk_far ?_ NB370_371.out _; (with_reducible repeat (first | refine bN_ ?_ _ | refine bD_ ?_ | refine bA_ ?_ _)); exact BK370.out) hb); have n2_ := Aside0.mk (blk_below (g := gb371) (o := .cells #[.int .i64 (wrap64 (bt a0 0)), .string (a0.extract 3 35), .slice Ao64 x372002_2.length co64, .string (a0.extract ((ji47) : Int).toNat ((wrap64 ((ji47) + t376)) : Int).toNat), .string (a0.extract ((ji55) : Int).toNat a0.size)] 24 (0, 0)) (by (with_reducible repeat (first | refine bN_ ?_ _ | refine bD_ ?_ | refine bA_ ?_ _)); refine blk_put (cs := #[.int .i64 (wrap64 (bt a0 0)), .string (a0.extract 3 35), .slice Ao64 x372002_2.length co64, .string (a0.extract ((ji47) : Int).toNat ((wrap64 ((ji47) + t376)) : Int).toNat), .string (⟨#[]⟩ : ByteArray)]) ?_ 4 _ rfl; (with_reducible repeat (first | refine bN_ ?_ _ | refine bD_ ?_ | refine bA_ ?_ _)); refine blk_put (cs := #[.int .i64 (wrap64 (bt a0 0)), .string (a0.extract 3 35), .slice Ao64 x372002_2.length co64, .string (⟨#[]⟩ : ByteArray), .string (⟨#[]⟩ : ByteArray)]) ?_ 3 _ rfl; (with_reducible repeat (first | refine bN_ ?_ _ | refine bD_ ?_ | refine bA_ ?_ _)); exact BK371.out) hb); have n3_ := Aside0.mk (below_step (by repeat (first | (with_reducible first | exact HB.out | apply lA_ | apply lN_ | apply lD_ | refine lS_ ?_ GE370.out | refine lS_ ?_ GE371.out) | exact HB.out)) hb); clear HO_372002; clear BK370; clear BK371; clear HB; have HO_372002 := n0_; have BK370 := n1_; have BK371 := n2_; have HB := n3_; clear n0_ n1_ n2_ n3_; (try clear hb); (try clear hb2); (try clear hk); (try clear hi); obtain ⟨hcz66_0, hcz66_1, hcz66_2, hcz66_3, hcz66_4⟩ := c5_ BK371.out; obtain ⟨hfz66_0, hfz66_1, hfz66_2, hfz66_3, hfz66_4⟩ := f5_ BK371.out) | (go_at_call 15; (with_reducible refine (palaverref06_Encode.calls kj33 (wrap64 (bt a0 0)) (a0.extract 3 35) _ _ x372002_2 (a0.extract ((ji47) : Int).toNat ((wrap64 ((ji47) + t376)) : Int).toNat) (a0.extract ((ji55) : Int).toNat a0.size) t378 _ ?side1 ?side2 A60.out).mono ?_); (case side1 => repeat (first | exact (Kd.R_reads' HO_372002.out).2.2 | (with_reducible refine Kd.C_alloc ?_ _) | (with_reducible refine Kd.C_drewN ?_ _) | (with_reducible refine Kd.C_drew ?_))); (case side2 => exact (Kd.R_reads' HO_372002.out).2.1); rintro e w67 ⟨rfl, hb⟩; have n0_ := Aside0.mk (Kd.R_below (by (with_reducible repeat (first | apply Kd.R_alloc | apply Kd.R_drewN | apply Kd.R_drew)); exact HO_372002.out) hb); have n1_ := Aside0.mk (blk_below (g := gb370) (o := .cells #[.int .i64 x371000_2, .string x371001_2, .slice none 0 0, .string x371003_2, .string x371004_2] 24 (0, 0)) (by (with_reducible repeat (first | refine bN_ ?_ _ | refine bD_ ?_ | refine bA_ ?_ _)); exact BK370.out) hb); have n2_ := Aside0.mk (blk_below (g := gb371) (o := .cells #[.int .i64 (wrap64 (bt a0 0)), .string (a0.extract 3 35), .slice Ao64 x372002_2.length co64, .string (a0.extract ((ji47) : Int).toNat ((wrap64 ((ji47) + t376)) : Int).toNat), .string (a0.extract ((ji55) : Int).toNat a0.size)] 24 (0, 0)) (by (with_reducible repeat (first | refine bN_ ?_ _ | refine bD_ ?_ | refine bA_ ?_ _)); exact BK371.out) hb); have n3_ := Aside0.mk (below_step (by repeat (first | (with_reducible first | exact HB.out | apply lA_ | apply lN_ | apply lD_ | refine lS_ ?_ GE370.out | refine lS_ ?_ GE371.out) | exact HB.out)) hb); clear HO_372002; clear BK370; clear BK371; clear HB; have HO_372002 := n0_; have BK370 := n1_; have BK371 := n2_; have HB := n3_; clear n0_ n1_ n2_ n3_; (try clear hb); (try clear hb2); (try clear hk); (try clear hi); obtain ⟨hcz68_0, hcz68_1, hcz68_2, hcz68_3, hcz68_4⟩ := c5_ BK371.out; obtain ⟨hfz68_0, hfz68_1, hfz68_2, hfz68_3, hfz68_4⟩ := f5_ BK371.out; obtain ⟨hcz69_0, hcz69_1, hcz69_2, hcz69_3, hcz69_4⟩ := c5_ BK370.out; obtain ⟨hfz69_0, hfz69_1, hfz69_2, hfz69_3, hfz69_4⟩ := f5_ BK370.out))
         refine bodyPost_ret (results_ct rfl _ _ gb370 24 #[.int .i64 (wrap64 (bt a0 0)), .string (a0.extract 3 35), .slice Ao64 x372002_2.length co64, .string (a0.extract ((ji47) : Int).toNat ((wrap64 ((ji47) + t376)) : Int).toNat), .string (a0.extract ((ji55) : Int).toNat a0.size)] (0, 0) _ rfl (by (with_reducible repeat (first | refine bN_ ?_ _ | refine bD_ ?_ | refine bA_ ?_ _)); refine blk_put (cs := #[.int .i64 (wrap64 (bt a0 0)), .string (a0.extract 3 35), .slice Ao64 x372002_2.length co64, .string (a0.extract ((ji47) : Int).toNat ((wrap64 ((ji47) + t376)) : Int).toNat), .string x371004_2]) ?_ 4 _ rfl; (with_reducible repeat (first | refine bN_ ?_ _ | refine bD_ ?_ | refine bA_ ?_ _)); refine blk_put (cs := #[.int .i64 (wrap64 (bt a0 0)), .string (a0.extract 3 35), .slice Ao64 x372002_2.length co64, .string x371003_2, .string x371004_2]) ?_ 3 _ rfl; (with_reducible repeat (first | refine bN_ ?_ _ | refine bD_ ?_ | refine bA_ ?_ _)); refine blk_put (cs := #[.int .i64 (wrap64 (bt a0 0)), .string (a0.extract 3 35), .slice none 0 0, .string x371003_2, .string x371004_2]) ?_ 2 _ rfl; (with_reducible repeat (first | refine bN_ ?_ _ | refine bD_ ?_ | refine bA_ ?_ _)); refine blk_put (cs := #[.int .i64 (wrap64 (bt a0 0)), .string x371001_2, .slice none 0 0, .string x371003_2, .string x371004_2]) ?_ 1 _ rfl; (with_reducible repeat (first | refine bN_ ?_ _ | refine bD_ ?_ | refine bA_ ?_ _)); refine blk_put (cs := #[.int .i64 x371000_2, .string x371001_2, .slice none 0 0, .string x371003_2, .string x371004_2]) ?_ 0 _ rfl; (with_reducible repeat (first | refine bN_ ?_ _ | refine bD_ ?_ | refine bA_ ?_ _)); exact BK370.out) Tryd.underlying24 rfl (by kernel_rfl)) rfl ?_
         exact ⟨_, by first | rfl | (simp [errW_none, errW_some] <;> rfl) | (simp only [← hji47, ← hji55]; first | rfl | (simp [errW_none, errW_some] <;> rfl)) | (simp [*, errW_none, errW_some] <;> rfl), by (with_reducible repeat (first | apply Kd.R_alloc | apply Kd.R_drewN | apply Kd.R_drew)); exact Kd.R_mono (Kd.R_far (p := ⟨gb370, 4, none⟩) (Kd.R_far (p := ⟨gb370, 3, none⟩) (Kd.R_far (p := ⟨gb370, 2, none⟩) (Kd.R_far (p := ⟨gb370, 1, none⟩) (Kd.R_far (p := ⟨gb370, 0, none⟩) (Kd.R_types HO_372002.out BK370.out (by decide)) (fun _ hk => hk.2) (.int .i64 (wrap64 (bt a0 0)))) (fun _ hk => hk.2) (.string (a0.extract 3 35))) (fun _ hk => hk.2) (.slice Ao64 x372002_2.length co64)) (fun _ hk => hk.2) (.string (a0.extract ((ji47) : Int).toNat ((wrap64 ((ji47) + t376)) : Int).toNat))) (fun _ hk => hk.2) (.string (a0.extract ((ji55) : Int).toNat a0.size))) (fun _ hk => trivial), by repeat (first | (with_reducible first | exact HB.out | apply lA_ | apply lN_ | apply lD_ | refine lS_ ?_ GE370.out | refine lS_ ?_ GE371.out) | exact HB.out)⟩
        rw [if_neg c61] at H
        have c61b0 : (t378.toList == a0.toList) = false := beq_eq_false_iff_ne.mpr c61
        have c61b1 : (t378.toList != a0.toList) = true := bne_iff_ne.mpr c61
        simp only [Option.some.injEq, Prod.mk.injEq] at H
        obtain ⟨rfl, rfl, rfl, rfl, rfl, rfl⟩ := H
        go_wp2_with (first | ((with_reducible refine gate_callee (f := 35) rfl ?_); refine goesL_ (some 73) rfl rfl Tryd.func35 (by kernel_rfl) rfl #[.string (a0.extract (x5_2 : Int).toNat ((ji47) : Int).toNat)] rfl (by (try simp only [List.map_toArray, List.map_cons, List.map_nil]); first | done | (simp only [hji47]; rfl) | rfl | (simp only [List.length_drop, List.length_take]; rfl)) ?_; (with_reducible refine (palaverref01_Value.calls kj33 (a0.extract (x5_2 : Int).toNat ((ji47) : Int).toNat) t376 _ A46.out).mono ?_); rintro e w' ⟨rfl, ⟨nd, rfl⟩⟩; refine ⟨_, rfl, ?_⟩; (try (rw [drewN_self wc]; generalize hq_ : World.drewN wc _ = wc; have n0_ : Aside0 (Kd.R Kd.string 9 wc w.heap.size (fun _ => True) u372002 x372002_2) := ⟨by rw [← hq_]; exact (by (with_reducible repeat (first | apply Kd.R_alloc | apply Kd.R_drewN | apply Kd.R_drew)); exact HO_372002.out)⟩; have n1_ : Aside0 (wc.heap[gb370]? = some (.cells #[.int .i64 x371000_2, .string x371001_2, .slice none 0 0, .string x371003_2, .string x371004_2] 24 (0, 0))) := ⟨by rw [← hq_]; exact (by (with_reducible repeat (first | refine bN_ ?_ _ | refine bD_ ?_ | refine bA_ ?_ _)); exact BK370.out)⟩; have n2_ : Aside0 (wc.heap[gb371]? = some (.cells #[.int .i64 (wrap64 (bt a0 0)), .string (a0.extract 3 35), u372002, .string (⟨#[]⟩ : ByteArray), .string (⟨#[]⟩ : ByteArray)] 24 (0, 0))) := ⟨by rw [← hq_]; exact (by (with_reducible repeat (first | refine bN_ ?_ _ | refine bD_ ?_ | refine bA_ ?_ _)); exact BK371.out)⟩; have n3_ : Aside0 (Below w.heap.size w wc) := ⟨by rw [← hq_]; exact (by repeat (first | (with_reducible first | exact HB.out | apply lA_ | apply lN_ | apply lD_ | refine lS_ ?_ GE370.out | refine lS_ ?_ GE371.out) | exact HB.out))⟩; clear HO_372002 BK370 BK371 HB hq_; have HO_372002 := n0_; have BK370 := n1_; have BK371 := n2_; have HB := n3_; clear n0_ n1_ n2_ n3_; have hfu370 := blk_frozen BK370.out; have hcu370 := blk_cell BK370.out; have hfu371 := blk_frozen BK371.out; have hcu371 := blk_cell BK371.out)); have hnb70 := NB371_370.out; have hnc70 := NB370_371.out; obtain ⟨hcz71_0, hcz71_1, hcz71_2, hcz71_3, hcz71_4⟩ := c5_ BK371.out; obtain ⟨hfz71_0, hfz71_1, hfz71_2, hfz71_3, hfz71_4⟩ := f5_ BK371.out; obtain ⟨Ao72, co72, eo72⟩ := Kd.R_slice HO_372002.out; subst eo72) | ((with_reducible refine gate_callee (f := 14) rfl ?_); refine goesL_ (some 99) rfl rfl Tryd.func14 (by kernel_rfl) rfl #[.agg #[.int .i64 (wrap64 (bt a0 0)), .string (a0.extract 3 35), .slice Ao72 x372002_2.length co72, .string (a0.extract ((ji47) : Int).toNat ((wrap64 ((ji47) + t376)) : Int).toNat), .string (a0.extract ((ji55) : Int).toNat a0.size)]] rfl (by (try simp only [List.map_toArray, List.map_cons, List.map_nil]); first | done | (simp only [hji47, hji55]; rfl) | rfl | (simp only [List.length_drop, List.length_take]; rfl)) ?_; (with_reducible refine (palaverref06_Right.calls kj33 (wrap64 (bt a0 0)) (a0.extract 3 35) _ _ x372002_2 (a0.extract ((ji47) : Int).toNat ((wrap64 ((ji47) + t376)) : Int).toNat) (a0.extract ((ji55) : Int).toNat a0.size) true _ ?side1 ?side2 A58.out).mono ?_); (case side1 => refine (Kd.R_reads' (e := 9) (base := w.heap.size) (ok := fun k_ => True) (n := x372002_2.length) (c := co72) ?_).2.2; exact (by (with_reducible repeat (first | apply Kd.R_alloc | apply Kd.R_drewN | apply Kd.R_drew)); exact (Kd.R_mono (Kd.R_far (p := ⟨gb371, 4, none⟩) (Kd.R_far (p := ⟨gb371, 3, none⟩) (Kd.R_types HO_372002.out BK371.out (by decide)) (fun _ hk => hk.2) (.string (a0.extract ((ji47) : Int).toNat ((wrap64 ((ji47) + t376)) : Int).toNat))) (fun _ hk => hk.2) (.string (a0.extract ((ji55) : Int).toNat a0.size))) (fun _ h_ => h_.1)))); (case side2 => exact (Kd.R_reads' HO_372002.out).2.1); rintro e w73 ⟨rfl, hb⟩; refine ⟨_, rfl, ?_⟩; have n0_ := Aside0.mk (Kd.R_below (by (with_reducible repeat (first | apply Kd.R_alloc | apply Kd.R_drewN | apply Kd.R_drew)); exact (Kd.R_mono (Kd.R_far (p := ⟨gb371, 4, none⟩) (Kd.R_far (p := ⟨gb371, 3, none⟩) (Kd.R_types HO_372002.out BK371.out (by decide)) (fun _ hk => hk.2) (.string (a0.extract ((ji47) : Int).toNat ((wrap64 ((ji47) + t376)) : Int).toNat))) (fun _ hk => hk.2) (.string (a0.extract ((ji55) : Int).toNat a0.size))) (fun _ h_ => h_.1))) hb); have n1_ := Aside0.mk (blk_below (g := gb370) (o := .cells #[.int .i64 x371000_2, .string x371001_2, .slice none 0 0, .string x371003_2, .string x371004_2] 24 (0, 0)) (by (with_reducible repeat (first | refine bN_ ?_ _ | refine bD_ ?_ | refine bA_ ?_ _)); refine blk_far ?_ NB370_371.out _; (with_reducible repeat (first | refine bN_ ?_ _ | refine bD_ ?_ | refine bA_ ?_ _)); refine blk_far ?_ NB370_371.out _; (with_reducible repeat (first | refine bN_ ?_ _ | refine bD_ ?_ | refine bA_ ?_ _)); exact BK370.out) hb); have n2_ := Aside0.mk (blk_below (g := gb371) (o := .cells #[.int .i64 (wrap64 (bt a0 0)), .string (a0.extract 3 35), .slice Ao72 x372002_2.length co72, .string (a0.extract ((ji47) : Int).toNat ((wrap64 ((ji47) + t376)) : Int).toNat), .string (a0.extract ((ji55) : Int).toNat a0.size)] 24 (0, 0)) (by (with_reducible repeat (first | refine bN_ ?_ _ | refine bD_ ?_ | refine bA_ ?_ _)); refine blk_put (cs := #[.int .i64 (wrap64 (bt a0 0)), .string (a0.extract 3 35), .slice Ao72 x372002_2.length co72, .string (a0.extract ((ji47) : Int).toNat ((wrap64 ((ji47) + t376)) : Int).toNat), .string (⟨#[]⟩ : ByteArray)]) ?_ 4 _ rfl; (with_reducible repeat (first | refine bN_ ?_ _ | refine bD_ ?_ | refine bA_ ?_ _)); refine blk_put (cs := #[.int .i64 (wrap64 (bt a0 0)), .string (a0.extract 3 35), .slice Ao72 x372002_2.length co72, .string (⟨#[]⟩ : ByteArray), .string (⟨#[]⟩ : ByteArray)]) ?_ 3 _ rfl; (with_reducible repeat (first | refine bN_ ?_ _ | refine bD_ ?_ | refine bA_ ?_ _)); exact BK371.out) hb); have n3_ := Aside0.mk (below_step (by repeat (first | (with_reducible first | exact HB.out | apply lA_ | apply lN_ | apply lD_ | refine lS_ ?_ GE370.out | refine lS_ ?_ GE371.out) | exact HB.out)) hb); clear HO_372002; clear BK370; clear BK371; clear HB; have HO_372002 := n0_; have BK370 := n1_; have BK371 := n2_; have HB := n3_; clear n0_ n1_ n2_ n3_; (try clear hb); (try clear hb2); (try clear hk); (try clear hi); obtain ⟨hcz74_0, hcz74_1, hcz74_2, hcz74_3, hcz74_4⟩ := c5_ BK371.out; obtain ⟨hfz74_0, hfz74_1, hfz74_2, hfz74_3, hfz74_4⟩ := f5_ BK371.out) | (go_at_call 15; (with_reducible refine (palaverref06_Encode.calls kj33 (wrap64 (bt a0 0)) (a0.extract 3 35) _ _ x372002_2 (a0.extract ((ji47) : Int).toNat ((wrap64 ((ji47) + t376)) : Int).toNat) (a0.extract ((ji55) : Int).toNat a0.size) t378 _ ?side1 ?side2 A60.out).mono ?_); (case side1 => repeat (first | exact (Kd.R_reads' HO_372002.out).2.2 | (with_reducible refine Kd.C_alloc ?_ _) | (with_reducible refine Kd.C_drewN ?_ _) | (with_reducible refine Kd.C_drew ?_))); (case side2 => exact (Kd.R_reads' HO_372002.out).2.1); rintro e w75 ⟨rfl, hb⟩; have n0_ := Aside0.mk (Kd.R_below (by (with_reducible repeat (first | apply Kd.R_alloc | apply Kd.R_drewN | apply Kd.R_drew)); exact HO_372002.out) hb); have n1_ := Aside0.mk (blk_below (g := gb370) (o := .cells #[.int .i64 x371000_2, .string x371001_2, .slice none 0 0, .string x371003_2, .string x371004_2] 24 (0, 0)) (by (with_reducible repeat (first | refine bN_ ?_ _ | refine bD_ ?_ | refine bA_ ?_ _)); exact BK370.out) hb); have n2_ := Aside0.mk (blk_below (g := gb371) (o := .cells #[.int .i64 (wrap64 (bt a0 0)), .string (a0.extract 3 35), .slice Ao72 x372002_2.length co72, .string (a0.extract ((ji47) : Int).toNat ((wrap64 ((ji47) + t376)) : Int).toNat), .string (a0.extract ((ji55) : Int).toNat a0.size)] 24 (0, 0)) (by (with_reducible repeat (first | refine bN_ ?_ _ | refine bD_ ?_ | refine bA_ ?_ _)); exact BK371.out) hb); have n3_ := Aside0.mk (below_step (by repeat (first | (with_reducible first | exact HB.out | apply lA_ | apply lN_ | apply lD_ | refine lS_ ?_ GE370.out | refine lS_ ?_ GE371.out) | exact HB.out)) hb); clear HO_372002; clear BK370; clear BK371; clear HB; have HO_372002 := n0_; have BK370 := n1_; have BK371 := n2_; have HB := n3_; clear n0_ n1_ n2_ n3_; (try clear hb); (try clear hb2); (try clear hk); (try clear hi); obtain ⟨hcz76_0, hcz76_1, hcz76_2, hcz76_3, hcz76_4⟩ := c5_ BK370.out; obtain ⟨hfz76_0, hfz76_1, hfz76_2, hfz76_3, hfz76_4⟩ := f5_ BK370.out))
        refine bodyPost_ret (results_ct rfl _ _ gb370 24 #[.int .i64 0, .string (⟨#[]⟩ : ByteArray), .slice none 0 0, .string (⟨#[]⟩ : ByteArray), .string (⟨#[]⟩ : ByteArray)] (0, 0) _ rfl (by (with_reducible repeat (first | refine bN_ ?_ _ | refine bD_ ?_ | refine bA_ ?_ _)); refine blk_put (cs := #[.int .i64 0, .string (⟨#[]⟩ : ByteArray), .slice none 0 0, .string (⟨#[]⟩ : ByteArray), .string x371004_2]) ?_ 4 _ rfl; (with_reducible repeat (first | refine bN_ ?_ _ | refine bD_ ?_ | refine bA_ ?_ _)); refine blk_put (cs := #[.int .i64 0, .string (⟨#[]⟩ : ByteArray), .slice none 0 0, .string x371003_2, .string x371004_2]) ?_ 3 _ rfl; (with_reducible repeat (first | refine bN_ ?_ _ | refine bD_ ?_ | refine bA_ ?_ _)); refine blk_put (cs := #[.int .i64 0, .string (⟨#[]⟩ : ByteArray), .slice none 0 0, .string x371003_2, .string x371004_2]) ?_ 2 _ rfl; (with_reducible repeat (first | refine bN_ ?_ _ | refine bD_ ?_ | refine bA_ ?_ _)); refine blk_put (cs := #[.int .i64 0, .string x371001_2, .slice none 0 0, .string x371003_2, .string x371004_2]) ?_ 1 _ rfl; (with_reducible repeat (first | refine bN_ ?_ _ | refine bD_ ?_ | refine bA_ ?_ _)); refine blk_put (cs := #[.int .i64 x371000_2, .string x371001_2, .slice none 0 0, .string x371003_2, .string x371004_2]) ?_ 0 _ rfl; (with_reducible repeat (first | refine bN_ ?_ _ | refine bD_ ?_ | refine bA_ ?_ _)); exact BK370.out) Tryd.underlying24 rfl (by kernel_rfl)) rfl ?_
        exact ⟨_, by first | rfl | (simp [errW_none, errW_some] <;> rfl) | (simp only [← hji47, ← hji55]; first | rfl | (simp [errW_none, errW_some] <;> rfl)) | (simp [*, errW_none, errW_some] <;> rfl), by first | exact Kd.R_nil _ _ _ _ _ | exact Kd.N_nil _ _ _ _ _ | exact Kd.V_nil _ _ _ _ _ | exact Kd.Q_nil _ _ _ _ _ | exact Kd.S_nil _ _ _ _ _, by repeat (first | (with_reducible first | exact HB.out | apply lA_ | apply lN_ | apply lD_ | refine lS_ ?_ GE370.out | refine lS_ ?_ GE371.out) | exact HB.out)⟩
       replace c59 := Bool.eq_false_iff.mpr c59
       subst c59
       have H1 : (some (0, (⟨#[]⟩ : ByteArray), ([] : List ByteArray), (⟨#[]⟩ : ByteArray), (⟨#[]⟩ : ByteArray), false)) = some (r1, r2, r3, r4, r5, r6) := by rw [if_neg (show ¬ (false = true) by decide)] at H; exact H
       clear H
       have H := H1
       clear H1
       simp only [Option.some.injEq, Prod.mk.injEq] at H
       obtain ⟨rfl, rfl, rfl, rfl, rfl, rfl⟩ := H
       go_wp2_with (first | ((with_reducible refine gate_callee (f := 35) rfl ?_); refine goesL_ (some 73) rfl rfl Tryd.func35 (by kernel_rfl) rfl #[.string (a0.extract (x5_2 : Int).toNat ((ji47) : Int).toNat)] rfl (by (try simp only [List.map_toArray, List.map_cons, List.map_nil]); first | done | (simp only [hji47]; rfl) | rfl | (simp only [List.length_drop, List.length_take]; rfl)) ?_; (with_reducible refine (palaverref01_Value.calls kj33 (a0.extract (x5_2 : Int).toNat ((ji47) : Int).toNat) t376 _ A46.out).mono ?_); rintro e w' ⟨rfl, ⟨nd, rfl⟩⟩; refine ⟨_, rfl, ?_⟩; (try (rw [drewN_self wc]; generalize hq_ : World.drewN wc _ = wc; have n0_ : Aside0 (Kd.R Kd.string 9 wc w.heap.size (fun _ => True) u372002 x372002_2) := ⟨by rw [← hq_]; exact (by (with_reducible repeat (first | apply Kd.R_alloc | apply Kd.R_drewN | apply Kd.R_drew)); exact HO_372002.out)⟩; have n1_ : Aside0 (wc.heap[gb370]? = some (.cells #[.int .i64 x371000_2, .string x371001_2, .slice none 0 0, .string x371003_2, .string x371004_2] 24 (0, 0))) := ⟨by rw [← hq_]; exact (by (with_reducible repeat (first | refine bN_ ?_ _ | refine bD_ ?_ | refine bA_ ?_ _)); exact BK370.out)⟩; have n2_ : Aside0 (wc.heap[gb371]? = some (.cells #[.int .i64 (wrap64 (bt a0 0)), .string (a0.extract 3 35), u372002, .string (⟨#[]⟩ : ByteArray), .string (⟨#[]⟩ : ByteArray)] 24 (0, 0))) := ⟨by rw [← hq_]; exact (by (with_reducible repeat (first | refine bN_ ?_ _ | refine bD_ ?_ | refine bA_ ?_ _)); exact BK371.out)⟩; have n3_ : Aside0 (Below w.heap.size w wc) := ⟨by rw [← hq_]; exact (by repeat (first | (with_reducible first | exact HB.out | apply lA_ | apply lN_ | apply lD_ | refine lS_ ?_ GE370.out | refine lS_ ?_ GE371.out) | exact HB.out))⟩; clear HO_372002 BK370 BK371 HB hq_; have HO_372002 := n0_; have BK370 := n1_; have BK371 := n2_; have HB := n3_; clear n0_ n1_ n2_ n3_; have hfu370 := blk_frozen BK370.out; have hcu370 := blk_cell BK370.out; have hfu371 := blk_frozen BK371.out; have hcu371 := blk_cell BK371.out)); have hnb77 := NB371_370.out; have hnc77 := NB370_371.out; obtain ⟨hcz78_0, hcz78_1, hcz78_2, hcz78_3, hcz78_4⟩ := c5_ BK371.out; obtain ⟨hfz78_0, hfz78_1, hfz78_2, hfz78_3, hfz78_4⟩ := f5_ BK371.out; obtain ⟨Ao79, co79, eo79⟩ := Kd.R_slice HO_372002.out; subst eo79) | ((with_reducible refine gate_callee (f := 14) rfl ?_); refine goesL_ (some 99) rfl rfl Tryd.func14 (by kernel_rfl) rfl #[.agg #[.int .i64 (wrap64 (bt a0 0)), .string (a0.extract 3 35), .slice Ao79 x372002_2.length co79, .string (a0.extract ((ji47) : Int).toNat ((wrap64 ((ji47) + t376)) : Int).toNat), .string (a0.extract ((ji55) : Int).toNat a0.size)]] rfl (by (try simp only [List.map_toArray, List.map_cons, List.map_nil]); first | done | (simp only [hji47, hji55]; rfl) | rfl | (simp only [List.length_drop, List.length_take]; rfl)) ?_; (with_reducible refine (palaverref06_Right.calls kj33 (wrap64 (bt a0 0)) (a0.extract 3 35) _ _ x372002_2 (a0.extract ((ji47) : Int).toNat ((wrap64 ((ji47) + t376)) : Int).toNat) (a0.extract ((ji55) : Int).toNat a0.size) false _ ?side1 ?side2 A58.out).mono ?_); (case side1 => refine (Kd.R_reads' (e := 9) (base := w.heap.size) (ok := fun k_ => True) (n := x372002_2.length) (c := co79) ?_).2.2; exact (by (with_reducible repeat (first | apply Kd.R_alloc | apply Kd.R_drewN | apply Kd.R_drew)); exact (Kd.R_mono (Kd.R_far (p := ⟨gb371, 4, none⟩) (Kd.R_far (p := ⟨gb371, 3, none⟩) (Kd.R_types HO_372002.out BK371.out (by decide)) (fun _ hk => hk.2) (.string (a0.extract ((ji47) : Int).toNat ((wrap64 ((ji47) + t376)) : Int).toNat))) (fun _ hk => hk.2) (.string (a0.extract ((ji55) : Int).toNat a0.size))) (fun _ h_ => h_.1)))); (case side2 => exact (Kd.R_reads' HO_372002.out).2.1); rintro e w80 ⟨rfl, hb⟩; refine ⟨_, rfl, ?_⟩; have n0_ := Aside0.mk (Kd.R_below (by (with_reducible repeat (first | apply Kd.R_alloc | apply Kd.R_drewN | apply Kd.R_drew)); exact (Kd.R_mono (Kd.R_far (p := ⟨gb371, 4, none⟩) (Kd.R_far (p := ⟨gb371, 3, none⟩) (Kd.R_types HO_372002.out BK371.out (by decide)) (fun _ hk => hk.2) (.string (a0.extract ((ji47) : Int).toNat ((wrap64 ((ji47) + t376)) : Int).toNat))) (fun _ hk => hk.2) (.string (a0.extract ((ji55) : Int).toNat a0.size))) (fun _ h_ => h_.1))) hb); have n1_ := Aside0.mk (blk_below (g := gb370) (o := .cells #[.int .i64 x371000_2, .string x371001_2, .slice none 0 0, .string x371003_2, .string x371004_2] 24 (0, 0)) (by (with_reducible repeat (first | refine bN_ ?_ _ | refine bD_ ?_ | refine bA_ ?_ _)); refine blk_far ?_ NB370_371.out _; (with_reducible repeat (first | refine bN_ ?_ _ | refine bD_ ?_ | refine bA_ ?_ _)); refine blk_far ?_ NB370_371.out _; (with_reducible repeat (first | refine bN_ ?_ _ | refine bD_ ?_ | refine bA_ ?_ _)); exact BK370.out) hb); have n2_ := Aside0.mk (blk_below (g := gb371) (o := .cells #[.int .i64 (wrap64 (bt a0 0)), .string (a0.extract 3 35), .slice Ao79 x372002_2.length co79, .string (a0.extract ((ji47) : Int).toNat ((wrap64 ((ji47) + t376)) : Int).toNat), .string (a0.extract ((ji55) : Int).toNat a0.size)] 24 (0, 0)) (by (with_reducible repeat (first | refine bN_ ?_ _ | refine bD_ ?_ | refine bA_ ?_ _)); refine blk_put (cs := #[.int .i64 (wrap64 (bt a0 0)), .string (a0.extract 3 35), .slice Ao79 x372002_2.length co79, .string (a0.extract ((ji47) : Int).toNat ((wrap64 ((ji47) + t376)) : Int).toNat), .string (⟨#[]⟩ : ByteArray)]) ?_ 4 _ rfl; (with_reducible repeat (first | refine bN_ ?_ _ | refine bD_ ?_ | refine bA_ ?_ _)); refine blk_put (cs := #[.int .i64 (wrap64 (bt a0 0)), .string (a0.extract 3 35), .slice Ao79 x372002_2.length co79, .string (⟨#[]⟩ : ByteArray), .string (⟨#[]⟩ : ByteArray)]) ?_ 3 _ rfl; (with_reducible repeat (first | refine bN_ ?_ _ | refine bD_ ?_ | refine bA_ ?_ _)); exact BK371.out) hb); have n3_ := Aside0.mk (below_step (by repeat (first | (with_reducible first | exact HB.out | apply lA_ | apply lN_ | apply lD_ | refine lS_ ?_ GE370.out | refine lS_ ?_ GE371.out) | exact HB.out)) hb); clear HO_372002; clear BK370; clear BK371; clear HB; have HO_372002 := n0_; have BK370 := n1_; have BK371 := n2_; have HB := n3_; clear n0_ n1_ n2_ n3_; (try clear hb); (try clear hb2); (try clear hk); (try clear hi); obtain ⟨hcz81_0, hcz81_1, hcz81_2, hcz81_3, hcz81_4⟩ := c5_ BK370.out; obtain ⟨hfz81_0, hfz81_1, hfz81_2, hfz81_3, hfz81_4⟩ := f5_ BK370.out))
       refine bodyPost_ret (results_ct rfl _ _ gb370 24 #[.int .i64 0, .string (⟨#[]⟩ : ByteArray), .slice none 0 0, .string (⟨#[]⟩ : ByteArray), .string (⟨#[]⟩ : ByteArray)] (0, 0) _ rfl (by (with_reducible repeat (first | refine bN_ ?_ _ | refine bD_ ?_ | refine bA_ ?_ _)); refine blk_put (cs := #[.int .i64 0, .string (⟨#[]⟩ : ByteArray), .slice none 0 0, .string (⟨#[]⟩ : ByteArray), .string x371004_2]) ?_ 4 _ rfl; (with_reducible repeat (first | refine bN_ ?_ _ | refine bD_ ?_ | refine bA_ ?_ _)); refine blk_put (cs := #[.int .i64 0, .string (⟨#[]⟩ : ByteArray), .slice none 0 0, .string x371003_2, .string x371004_2]) ?_ 3 _ rfl; (with_reducible repeat (first | refine bN_ ?_ _ | refine bD_ ?_ | refine bA_ ?_ _)); refine blk_put (cs := #[.int .i64 0, .string (⟨#[]⟩ : ByteArray), .slice none 0 0, .string x371003_2, .string x371004_2]) ?_ 2 _ rfl; (with_reducible repeat (first | refine bN_ ?_ _ | refine bD_ ?_ | refine bA_ ?_ _)); refine blk_put (cs := #[.int .i64 0, .string x371001_2, .slice none 0 0, .string x371003_2, .string x371004_2]) ?_ 1 _ rfl; (with_reducible repeat (first | refine bN_ ?_ _ | refine bD_ ?_ | refine bA_ ?_ _)); refine blk_put (cs := #[.int .i64 x371000_2, .string x371001_2, .slice none 0 0, .string x371003_2, .string x371004_2]) ?_ 0 _ rfl; (with_reducible repeat (first | refine bN_ ?_ _ | refine bD_ ?_ | refine bA_ ?_ _)); exact BK370.out) Tryd.underlying24 rfl (by kernel_rfl)) rfl ?_
       exact ⟨_, by first | rfl | (simp [errW_none, errW_some] <;> rfl) | (simp only [← hji47, ← hji55]; first | rfl | (simp [errW_none, errW_some] <;> rfl)) | (simp [*, errW_none, errW_some] <;> rfl), by first | exact Kd.R_nil _ _ _ _ _ | exact Kd.N_nil _ _ _ _ _ | exact Kd.V_nil _ _ _ _ _ | exact Kd.Q_nil _ _ _ _ _ | exact Kd.S_nil _ _ _ _ _, by repeat (first | (with_reducible first | exact HB.out | apply lA_ | apply lN_ | apply lD_ | refine lS_ ?_ GE370.out | refine lS_ ?_ GE371.out) | exact HB.out)⟩

end Go.Proofs.YtmedpnclkbkiiaaDoor.PP
