-- WRITTEN BY a program of this work (wip/ownprint.py), for this seat
import Derived.Test.YtmnppogihmhdgaaDoorPPx0
import Derived.Test.YtmnppogihmhdgaaDoorPPx1
import Derived.Test.YtmnppogihmhdgaaDoorPPx5
import Derived.Test.YtmnppogihmhdgaaDoorPPx7
import Derived.Test.YtmnppogihmhdgaaDoorPPx8
import Derived.Test.YtmnppogihmhdgaaDoorPPx12
import Derived.Test.YtmnppogihmhdgaaDoorPPx14
namespace Go.Proofs.YtmnppogihmhdgaaDoor.PP
open Go.RowKit Go.Proofs.YtmnppogihmhdgaaDoorW.PrintWords Go.Proofs.YtmnppogihmhdgaaDoorW.PrintLast Go.Proofs.YtmnppogihmhdgaaDoorW.PrintMore
attribute [local go_sem] max2_int min2_int max_two min_two max_three min_three max_four min_four   -- for this text's walks alone
set_option linter.unusedVariables false
set_option linter.unusedSimpArgs false

/-! ### palaverlaw04_MerkleApart: function 5 -/
mutual
def palaverlaw04_MerkleApart.j0 : Nat → List ByteArray → Int → ByteArray → Bool → Option (Bool)
 | 0, _, _, _, _ => none
 | k + 1, x0, x1, x2, x33 => if x33 = true then ((palaverlaw04_awake.f k).bind fun t352 => (some t352)) else (if (IntKind.u64.wrap ((x0.length : Int))) = 0 then (none) else ((some (([] : List ByteArray) : List ByteArray)).bind fun y353 => (if y353.length + x0.length < 8796093022208 then ((some (y353 ++ x0 : List ByteArray)).bind fun y356 => (if 0 ≤ (wrap64 (Int.tmod (IntKind.u64.wrap (x1)) (IntKind.u64.wrap ((x0.length : Int))))) then (if (wrap64 (Int.tmod (IntKind.u64.wrap (x1)) (IntKind.u64.wrap ((x0.length : Int))))) < (y356.length : Int) then ((merkle_Root.f k x0).bind fun bt360 => ((merkle_Root.f k (y356.set ((wrap64 (Int.tmod (IntKind.u64.wrap (x1)) (IntKind.u64.wrap ((x0.length : Int))))) : Int).toNat x2)).bind fun bt362 => (if (wrap64 (Int.tmod (IntKind.u64.wrap (x1)) (IntKind.u64.wrap ((x0.length : Int))))) < (x0.length : Int) then (if x2.toList = (rdOf ByteArray.empty x0 (wrap64 (Int.tmod (IntKind.u64.wrap (x1)) (IntKind.u64.wrap ((x0.length : Int)))))).toList then (palaverlaw04_MerkleApart.j1 k x0 x2 (wrap64 (Int.tmod (IntKind.u64.wrap (x1)) (IntKind.u64.wrap ((x0.length : Int))))) bt360.1 bt362.1 true) else (palaverlaw04_MerkleApart.j1 k x0 x2 (wrap64 (Int.tmod (IntKind.u64.wrap (x1)) (IntKind.u64.wrap ((x0.length : Int))))) bt360.1 bt362.1 (bt360.1.toList != bt362.1.toList))) else (none)))) else (none)) else (none))) else (none))))
def palaverlaw04_MerkleApart.j1 : Nat → List ByteArray → ByteArray → Int → ByteArray → ByteArray → Bool → Option (Bool)
 | 0, _, _, _, _, _, _ => none
 | k + 1, x0, x2, x7, x9, x11, x69 => if x69 = true then (if 0 ≤ x7 then (if x7 < (x0.length : Int) then (if ((x9.toList == x11.toList) == (x2.toList == (rdOf ByteArray.empty x0 x7).toList)) = true then ((palaverlaw04_awake.f k).bind fun t366 => (some t366)) else (some false)) else (none)) else (none)) else ((palaverref04_Path.f k x0 x7).bind fun t367 => (if 0 ≤ x7 then (if x7 < (x0.length : Int) then ((palaverref04_Fold.f k (rdOf ByteArray.empty x0 x7) x7 t367).bind fun bt371 => ((palaverref04_Fold.f k x2 x7 t367).bind fun bt376 => (palaverlaw04_MerkleApart.l0 k bt371.2.1 bt376.2.1 0))) else (none)) else (none)))
def palaverlaw04_MerkleApart.l0 : Nat → List ByteArray → List ByteArray → Int → Option (Bool)
 | 0, _, _, _ => none
 | k + 1, x15, x18, x20 => if x20 < (x15.length : Int) then (if 0 ≤ x20 then (if x20 < (x18.length : Int) then (if (rdOf ByteArray.empty x15 x20).toList = (rdOf ByteArray.empty x18 x20).toList then (palaverlaw04_MerkleApart.l0 k x15 x18 (wrap64 (x20 + 1))) else ((palaverref02_Sum.f k (rdOf ByteArray.empty x15 x20)).bind fun t384 => ((palaverref02_Sum.f k (rdOf ByteArray.empty x18 x20)).bind fun t386 => (if t384.toList = t386.toList then ((palaverlaw04_awake.f k).bind fun t387 => (some t387)) else (palaverlaw04_MerkleApart.l0 k x15 x18 (wrap64 (x20 + 1))))))) else (none)) else (none)) else (some false)
end
def palaverlaw04_MerkleApart.f (k : Nat) (l0 : List ByteArray) (a1 : Int) (a2 : ByteArray) : Option (Bool) := (palaverlaw04_long.f k l0).bind fun t350 => (if t350 = true then (palaverlaw04_MerkleApart.j0 k l0 a1 a2 true) else (if (a2.size : Int) > 300 then (palaverlaw04_MerkleApart.j0 k l0 a1 a2 true) else ((palaverref04_May.f (l0.length : Int)).bind fun t351 => (palaverlaw04_MerkleApart.j0 k l0 a1 a2 (!t351)))))
theorem palaverlaw04_MerkleApart.mono_l : ∀ k, (∀ y0 y1 y2 y3, LeO (palaverlaw04_MerkleApart.j0 k y0 y1 y2 y3) (palaverlaw04_MerkleApart.j0 (k + 1) y0 y1 y2 y3)) ∧ (∀ y0 y1 y2 y3 y4 y5, LeO (palaverlaw04_MerkleApart.j1 k y0 y1 y2 y3 y4 y5) (palaverlaw04_MerkleApart.j1 (k + 1) y0 y1 y2 y3 y4 y5)) ∧ (∀ y0 y1 y2, LeO (palaverlaw04_MerkleApart.l0 k y0 y1 y2) (palaverlaw04_MerkleApart.l0 (k + 1) y0 y1 y2))
 | 0 => ⟨fun _ _ _ _ r h => by simp [palaverlaw04_MerkleApart.j0] at h, fun _ _ _ _ _ _ r h => by simp [palaverlaw04_MerkleApart.j1] at h, fun _ _ _ r h => by simp [palaverlaw04_MerkleApart.l0] at h⟩
 | k + 1 => by
  obtain ⟨ih0, ih1, ih2⟩ := palaverlaw04_MerkleApart.mono_l k
  refine ⟨?_, ?_, ?_⟩
  ·intro y0 y1 y2 y3
   unfold palaverlaw04_MerkleApart.j0
   repeat' first
   | (with_reducible exact ih0 _ _ _ _)
   | (with_reducible exact ih1 _ _ _ _ _ _)
   | (with_reducible exact ih2 _ _ _)
   | (with_reducible exact merkle_Root.mono _ _)
   | (with_reducible exact palaverlaw04_awake.mono _)
   | (with_reducible exact palaverlaw04_long.mono _ _)
   | (with_reducible exact palaverref02_Sum.mono _ _)
   | (with_reducible exact palaverref04_Fold.mono _ _ _ _)
   | (with_reducible exact palaverref04_Path.mono _ _ _)
   | (with_reducible exact LeO.refl _)
   | (with_reducible exact LeO.none _)
   | (with_reducible refine LeO.ite ?_ ?_)
   | (with_reducible refine LeO.bind ?_ (fun _ => ?_))
   | exact ih0 _ _ _ _
   | exact ih1 _ _ _ _ _ _
   | exact ih2 _ _ _
   | exact merkle_Root.mono _ _
   | exact palaverlaw04_awake.mono _
   | exact palaverlaw04_long.mono _ _
   | exact palaverref02_Sum.mono _ _
   | exact palaverref04_Fold.mono _ _ _ _
   | exact palaverref04_Path.mono _ _ _
   | exact LeO.none _
   | refine LeO.ite ?_ ?_
   | refine LeO.bind ?_ (fun _ => ?_)
  ·intro y0 y1 y2 y3 y4 y5
   unfold palaverlaw04_MerkleApart.j1
   repeat' first
   | (with_reducible exact ih0 _ _ _ _)
   | (with_reducible exact ih1 _ _ _ _ _ _)
   | (with_reducible exact ih2 _ _ _)
   | (with_reducible exact merkle_Root.mono _ _)
   | (with_reducible exact palaverlaw04_awake.mono _)
   | (with_reducible exact palaverlaw04_long.mono _ _)
   | (with_reducible exact palaverref02_Sum.mono _ _)
   | (with_reducible exact palaverref04_Fold.mono _ _ _ _)
   | (with_reducible exact palaverref04_Path.mono _ _ _)
   | (with_reducible exact LeO.refl _)
   | (with_reducible exact LeO.none _)
   | (with_reducible refine LeO.ite ?_ ?_)
   | (with_reducible refine LeO.bind ?_ (fun _ => ?_))
   | exact ih0 _ _ _ _
   | exact ih1 _ _ _ _ _ _
   | exact ih2 _ _ _
   | exact merkle_Root.mono _ _
   | exact palaverlaw04_awake.mono _
   | exact palaverlaw04_long.mono _ _
   | exact palaverref02_Sum.mono _ _
   | exact palaverref04_Fold.mono _ _ _ _
   | exact palaverref04_Path.mono _ _ _
   | exact LeO.none _
   | refine LeO.ite ?_ ?_
   | refine LeO.bind ?_ (fun _ => ?_)
  ·intro y0 y1 y2
   unfold palaverlaw04_MerkleApart.l0
   repeat' first
   | (with_reducible exact ih0 _ _ _ _)
   | (with_reducible exact ih1 _ _ _ _ _ _)
   | (with_reducible exact ih2 _ _ _)
   | (with_reducible exact merkle_Root.mono _ _)
   | (with_reducible exact palaverlaw04_awake.mono _)
   | (with_reducible exact palaverlaw04_long.mono _ _)
   | (with_reducible exact palaverref02_Sum.mono _ _)
   | (with_reducible exact palaverref04_Fold.mono _ _ _ _)
   | (with_reducible exact palaverref04_Path.mono _ _ _)
   | (with_reducible exact LeO.refl _)
   | (with_reducible exact LeO.none _)
   | (with_reducible refine LeO.ite ?_ ?_)
   | (with_reducible refine LeO.bind ?_ (fun _ => ?_))
   | exact ih0 _ _ _ _
   | exact ih1 _ _ _ _ _ _
   | exact ih2 _ _ _
   | exact merkle_Root.mono _ _
   | exact palaverlaw04_awake.mono _
   | exact palaverlaw04_long.mono _ _
   | exact palaverref02_Sum.mono _ _
   | exact palaverref04_Fold.mono _ _ _ _
   | exact palaverref04_Path.mono _ _ _
   | exact LeO.none _
   | refine LeO.ite ?_ ?_
   | refine LeO.bind ?_ (fun _ => ?_)
theorem palaverlaw04_MerkleApart.mono : ∀ a0 a1 a2 k, LeO (palaverlaw04_MerkleApart.f k a0 a1 a2) (palaverlaw04_MerkleApart.f (k + 1) a0 a1 a2) := by
 intro a0 a1 a2 k
 obtain ⟨ih0, ih1, ih2⟩ := palaverlaw04_MerkleApart.mono_l k
 unfold palaverlaw04_MerkleApart.f
 repeat' first
  | (with_reducible exact ih0 _ _ _ _)
  | (with_reducible exact ih1 _ _ _ _ _ _)
  | (with_reducible exact ih2 _ _ _)
  | (with_reducible exact merkle_Root.mono _ _)
  | (with_reducible exact palaverlaw04_awake.mono _)
  | (with_reducible exact palaverlaw04_long.mono _ _)
  | (with_reducible exact palaverref02_Sum.mono _ _)
  | (with_reducible exact palaverref04_Fold.mono _ _ _ _)
  | (with_reducible exact palaverref04_Path.mono _ _ _)
  | (with_reducible exact LeO.refl _)
  | (with_reducible exact LeO.none _)
  | (with_reducible refine LeO.ite ?_ ?_)
  | (with_reducible refine LeO.bind ?_ (fun _ => ?_))
  | exact ih0 _ _ _ _
  | exact ih1 _ _ _ _ _ _
  | exact ih2 _ _ _
  | exact merkle_Root.mono _ _
  | exact palaverlaw04_awake.mono _
  | exact palaverlaw04_long.mono _ _
  | exact palaverref02_Sum.mono _ _
  | exact palaverref04_Fold.mono _ _ _ _
  | exact palaverref04_Path.mono _ _ _
  | exact LeO.none _
  | refine LeO.ite ?_ ?_
  | refine LeO.bind ?_ (fun _ => ?_)
def palaverlaw04_MerkleApart.T16 : Bool × List (List Nat × List Nat) := (true, [([], []), ([], []), ([0, 1], [0, 1]), ([2], [2]), ([], []), ([], []), ([4, 5], [4, 5]), ([6], [6]), ([3, 7], [3, 7]), ([8], [8]), ([9], [9]), ([9], [9]), ([10, 11, 9], [9, 10, 11]), ([12, 9], [9, 12]), ([13, 9, 9], [9, 13]), ([9], [9]), ([9], [9]), ([15, 16, 9], [9, 15, 16]), ([17, 9], [9, 17]), ([18, 14, 9], [9, 18]), ([14, 19, 9], [9, 14, 19]), ([9, 20], [9, 20])])
def palaverlaw04_MerkleApart.B16 : List Nat := [0, 0, 3, 7, 0, 0, 48, 112, 255, 511, 1023, 1023, 4095, 8191, 16383, 1023, 1023, 99327, 230399, 524287, 1048575, 2097151]
theorem palaverlaw04_MerkleApart.tab16 : rtab .any (opsOf Tryd.f5 16) = palaverlaw04_MerkleApart.T16 := by kernel_rfl
theorem palaverlaw04_MerkleApart.bits16 : waitsOk palaverlaw04_MerkleApart.T16.2 palaverlaw04_MerkleApart.B16 = true := by kernel_rfl
set_option maxHeartbeats 64000000 in
set_option maxRecDepth 100000 in
theorem palaverlaw04_MerkleApart.calls (k : Nat) (A0 : Option Addr) (c0 : Nat) (l0 : List ByteArray) (a1 : Int) (a2 : ByteArray) (r : Bool) (w : World) (hr0 : Kd.C Kd.string w A0 l0.length l0) (hc0 : l0.length ≤ c0) (hrG : Kd.C (Kd.int .u32) w (some ⟨0, 0, none⟩) keysL.length keysL) (h : palaverlaw04_MerkleApart.f k l0 a1 a2 = some r) :
 Calls Tryd.prog 5 #[.slice A0 l0.length c0, .int .i64 a1, .string a2] w fun e w' => e = .returned (.bool r) ∧ Below w.heap.size w w' := by
 have HR0 := Aside0.mk hr0
 have HC0 := Aside0.mk hc0
 clear hr0 hc0
 have HRG := Aside0.mk hrG
 clear hrG
 have HB := Aside0.mk (Below.refl w.heap.size w)
 have H : ((palaverlaw04_long.f k l0).bind fun t350 => (if t350 = true then (palaverlaw04_MerkleApart.j0 k l0 a1 a2 true) else (if (a2.size : Int) > 300 then (palaverlaw04_MerkleApart.j0 k l0 a1 a2 true) else ((palaverref04_May.f (l0.length : Int)).bind fun t351 => (palaverlaw04_MerkleApart.j0 k l0 a1 a2 (!t351)))))) = some r := h
 clear h
 have HC4 := Aside0.mk H
 clear H
 go_enter Tryd.func5, Tryd.ntmps5
 go_upto_region 1 with (fail)
 go_cut [33] (fun v33 wc => ∃ (kq : Nat) (x33_3 : Bool), v33 = .bool x33_3 ∧ Aside0 (palaverlaw04_MerkleApart.j0 kq l0 a1 a2 x33_3 = some r) ∧ Aside0 (kq ≤ k) ∧ Aside0 (Below w.heap.size w wc))
 case first =>
  have H := HC4.out
  clear HC4
  replace H := Option.bind_eq_some_iff.mp H
  obtain ⟨t350, A50, H⟩ := H
  replace H : (if t350 = true then (palaverlaw04_MerkleApart.j0 k l0 a1 a2 true) else (if (a2.size : Int) > 300 then (palaverlaw04_MerkleApart.j0 k l0 a1 a2 true) else ((palaverref04_May.f (l0.length : Int)).bind fun t351 => (palaverlaw04_MerkleApart.j0 k l0 a1 a2 (!t351))))) = some r := H
  have A5 := Aside0.mk A50
  clear A50
  by_cases c6 : t350 = true
  ·subst c6
   have H1 : (palaverlaw04_MerkleApart.j0 k l0 a1 a2 true) = some r := by rw [if_pos rfl] at H; exact H
   clear H
   have H := H1
   clear H1
   have H' := Aside0.mk H
   clear H
   go_wp2_with (first | ((with_reducible refine gate_callee (f := 9) rfl ?_); refine goesL_ (some 22) rfl rfl Tryd.func9 (by kernel_rfl) rfl #[.slice A0 l0.length c0] rfl (by (try simp only [List.map_toArray, List.map_cons, List.map_nil]); first | done | rfl | (simp only [List.length_drop, List.length_take]; rfl)) ?_; (with_reducible refine (palaverlaw04_long.calls k _ _ l0 true _ ?side1 ?side2 A5.out).mono ?_); (case side1 => repeat (first | exact (Kd.C_below HR0.out HB.out) | (with_reducible refine Kd.C_alloc ?_ _) | (with_reducible refine Kd.C_drewN ?_ _) | (with_reducible refine Kd.C_drew ?_))); (case side2 => exact HC0.out); rintro e w' ⟨rfl, ⟨nd, rfl⟩⟩; refine ⟨_, rfl, ?_⟩))
   go_meet
   case rel => exact ⟨_, (true), (by first | rfl | (simp; done) | (simp [*]; done) | exact congrArg Value.bool (nonempty_l _) | (refine congrArg (Value.int _) ?_; first | omega | (unfold Go.RowKit.wrap64; omega))), H', ⟨by first | omega | exact Nat.le_refl _⟩, ⟨by repeat (first | (with_reducible first | exact HB.out | apply below_alloc | apply pw_below_drewN | apply below_drew1) | exact HB.out)⟩⟩
  ·replace c6 := Bool.eq_false_iff.mpr c6
   subst c6
   have H1 : (if (a2.size : Int) > 300 then (palaverlaw04_MerkleApart.j0 k l0 a1 a2 true) else ((palaverref04_May.f (l0.length : Int)).bind fun t351 => (palaverlaw04_MerkleApart.j0 k l0 a1 a2 (!t351)))) = some r := by rw [if_neg (show ¬ (false = true) by decide)] at H; exact H
   clear H
   have H := H1
   clear H1
   by_cases c7 : (a2.size : Int) > 300
   ·rw [if_pos c7] at H
    have c7b0 : decide (300 < (a2.size : Int)) = true := decide_eq_true c7
    have c7b1 : decide (300 < a2.size) = true := decide_eq_true (by omega)
    clear c7
    (first | rw [c7b0] | (simp only [i64_w, i32_w]; rw [c7b0]) | skip)
    have H' := Aside0.mk H
    clear H
    go_wp2_with (first | ((with_reducible refine gate_callee (f := 9) rfl ?_); refine goesL_ (some 22) rfl rfl Tryd.func9 (by kernel_rfl) rfl #[.slice A0 l0.length c0] rfl (by (try simp only [List.map_toArray, List.map_cons, List.map_nil]); first | done | rfl | (simp only [List.length_drop, List.length_take]; rfl)) ?_; (with_reducible refine (palaverlaw04_long.calls k _ _ l0 false _ ?side1 ?side2 A5.out).mono ?_); (case side1 => repeat (first | exact (Kd.C_below HR0.out HB.out) | (with_reducible refine Kd.C_alloc ?_ _) | (with_reducible refine Kd.C_drewN ?_ _) | (with_reducible refine Kd.C_drew ?_))); (case side2 => exact HC0.out); rintro e w' ⟨rfl, ⟨nd, rfl⟩⟩; refine ⟨_, rfl, ?_⟩))
    go_meet
    case rel => exact ⟨_, (true), (by first | rfl | (simp; done) | (simp [*]; done) | exact congrArg Value.bool (nonempty_l _) | (refine congrArg (Value.int _) ?_; first | omega | (unfold Go.RowKit.wrap64; omega))), H', ⟨by first | omega | exact Nat.le_refl _⟩, ⟨by repeat (first | (with_reducible first | exact HB.out | apply below_alloc | apply pw_below_drewN | apply below_drew1) | exact HB.out)⟩⟩
   ·rw [if_neg c7] at H
    have c7b0 : decide (300 < (a2.size : Int)) = false := decide_eq_false c7
    have c7b1 : decide (300 < a2.size) = false := decide_eq_false (by omega)
    clear c7
    (first | rw [c7b0] | (simp only [i64_w, i32_w]; rw [c7b0]) | skip)
    replace H := Option.bind_eq_some_iff.mp H
    obtain ⟨t351, A80, H⟩ := H
    replace H : (palaverlaw04_MerkleApart.j0 k l0 a1 a2 (!t351)) = some r := H
    have A8 := Aside0.mk A80
    clear A80
    have H' := Aside0.mk H
    clear H
    go_wp2_with (first | ((with_reducible refine gate_callee (f := 9) rfl ?_); refine goesL_ (some 22) rfl rfl Tryd.func9 (by kernel_rfl) rfl #[.slice A0 l0.length c0] rfl (by (try simp only [List.map_toArray, List.map_cons, List.map_nil]); first | done | rfl | (simp only [List.length_drop, List.length_take]; rfl)) ?_; (with_reducible refine (palaverlaw04_long.calls k _ _ l0 false _ ?side1 ?side2 A5.out).mono ?_); (case side1 => repeat (first | exact (Kd.C_below HR0.out HB.out) | (with_reducible refine Kd.C_alloc ?_ _) | (with_reducible refine Kd.C_drewN ?_ _) | (with_reducible refine Kd.C_drew ?_))); (case side2 => exact HC0.out); rintro e w' ⟨rfl, ⟨nd, rfl⟩⟩; refine ⟨_, rfl, ?_⟩) | (go_at_call 12; (with_reducible refine (palaverref04_May.calls (l0.length : Int) t351 _ A8.out).mono ?_); rintro e w' ⟨rfl, ⟨nd, rfl⟩⟩))
    go_meet
    case rel => exact ⟨_, (!t351), (by first | rfl | (simp; done) | (simp [*]; done) | exact congrArg Value.bool (nonempty_l _) | (refine congrArg (Value.int _) ?_; first | omega | (unfold Go.RowKit.wrap64; omega))), H', ⟨by first | omega | exact Nat.le_refl _⟩, ⟨by repeat (first | (with_reducible first | exact HB.out | apply below_alloc | apply pw_below_drewN | apply below_drew1) | exact HB.out)⟩⟩
 case rest =>
  clear HC4
  (try clear p2); (try clear c5); (try clear c6); (try clear p6); (try clear c7); (try clear c7b0); (try clear c7b1)
  obtain ⟨kq, x33_3, rfl, HA, HJ3, HB⟩ := hcut
  cases kq with
  | zero => exact absurd HA.out (by simp [palaverlaw04_MerkleApart.j0])
  | succ kj3 =>
   have H := HA.out
   clear HA
   simp only [palaverlaw04_MerkleApart.j0] at H
   by_cases c9 : x33_3 = true
   ·subst c9
    have H1 : ((palaverlaw04_awake.f kj3).bind fun t352 => (some t352)) = some r := by rw [if_pos rfl] at H; exact H
    clear H
    have H := H1
    clear H1
    replace H := Option.bind_eq_some_iff.mp H
    obtain ⟨t352, A100, H⟩ := H
    replace H : (some t352) = some r := H
    have A10 := Aside0.mk A100
    clear A100
    obtain rfl := Option.some.inj H
    go_wp2_with (first | ((with_reducible refine gate_callee (f := 10) rfl ?_); refine goesL_ (some 34) rfl rfl Tryd.func10 (by kernel_rfl) rfl #[] rfl (by (try simp only [List.map_toArray, List.map_cons, List.map_nil]); first | done | rfl | (simp only [List.length_drop, List.length_take]; rfl)) ?_; (with_reducible refine (palaverlaw04_awake.calls kj3  t352 _ ?side1 A10.out).mono ?_); (case side1 => repeat (first | exact (Kd.C_below HRG.out HB.out) | (with_reducible refine Kd.C_alloc ?_ _) | (with_reducible refine Kd.C_drewN ?_ _) | (with_reducible refine Kd.C_drew ?_))); rintro e w11 ⟨rfl, hb⟩; refine ⟨_, rfl, ?_⟩; have n0_ := Aside0.mk (below_step (by repeat (first | (with_reducible first | exact HB.out | apply below_alloc | apply pw_below_drewN | apply below_drew1) | exact HB.out)) hb); clear HB; have HB := n0_; clear n0_; (try clear hb); (try clear hb2); (try clear hk); (try clear hi)))
    go_ret
    exact ⟨by first | rfl | (simp [errW_none, errW_some] <;> rfl) | (simp [*, errW_none, errW_some] <;> rfl), by repeat (first | (with_reducible first | exact HB.out | apply below_alloc | apply pw_below_drewN | apply below_drew1) | exact HB.out)⟩
   ·replace c9 := Bool.eq_false_iff.mpr c9
    subst c9
    have H1 : (if (IntKind.u64.wrap ((l0.length : Int))) = 0 then (none) else ((some (([] : List ByteArray) : List ByteArray)).bind fun y353 => (if y353.length + l0.length < 8796093022208 then ((some (y353 ++ l0 : List ByteArray)).bind fun y356 => (if 0 ≤ (wrap64 (Int.tmod (IntKind.u64.wrap (a1)) (IntKind.u64.wrap ((l0.length : Int))))) then (if (wrap64 (Int.tmod (IntKind.u64.wrap (a1)) (IntKind.u64.wrap ((l0.length : Int))))) < (y356.length : Int) then ((merkle_Root.f kj3 l0).bind fun bt360 => ((merkle_Root.f kj3 (y356.set ((wrap64 (Int.tmod (IntKind.u64.wrap (a1)) (IntKind.u64.wrap ((l0.length : Int))))) : Int).toNat a2)).bind fun bt362 => (if (wrap64 (Int.tmod (IntKind.u64.wrap (a1)) (IntKind.u64.wrap ((l0.length : Int))))) < (l0.length : Int) then (if a2.toList = (rdOf ByteArray.empty l0 (wrap64 (Int.tmod (IntKind.u64.wrap (a1)) (IntKind.u64.wrap ((l0.length : Int)))))).toList then (palaverlaw04_MerkleApart.j1 kj3 l0 a2 (wrap64 (Int.tmod (IntKind.u64.wrap (a1)) (IntKind.u64.wrap ((l0.length : Int))))) bt360.1 bt362.1 true) else (palaverlaw04_MerkleApart.j1 kj3 l0 a2 (wrap64 (Int.tmod (IntKind.u64.wrap (a1)) (IntKind.u64.wrap ((l0.length : Int))))) bt360.1 bt362.1 (bt360.1.toList != bt362.1.toList))) else (none)))) else (none)) else (none))) else (none)))) = some r := by rw [if_neg (show ¬ (false = true) by decide)] at H; exact H
    clear H
    have H := H1
    clear H1
    by_cases c12 : (IntKind.u64.wrap ((l0.length : Int))) = 0
    ·rw [if_pos c12] at H
     exact absurd H (by simp)
    ·rw [if_neg c12] at H
     have c12b0 : ((IntKind.u64.wrap ((l0.length : Int))) == 0) = false := beq_eq_false_iff_ne.mpr c12
     have c12b1 : ((IntKind.u64.wrap ((l0.length : Int))) != 0) = true := bne_iff_ne.mpr c12
     (try (have c12b7 := c12b0; simp only [u64_len (show l0.length ≤ 9223372036854775807 by omega)] at c12b7))
     (try (have c12b8 := c12b1; simp only [u64_len (show l0.length ≤ 9223372036854775807 by omega)] at c12b8))
     obtain ⟨y353, hy353⟩ : ∃ y_ : List ByteArray, y_ = (([] : List ByteArray)) := ⟨_, rfl⟩
     replace H : (if y353.length + l0.length < 8796093022208 then ((some (y353 ++ l0 : List ByteArray)).bind fun y356 => (if 0 ≤ (wrap64 (Int.tmod (IntKind.u64.wrap (a1)) (IntKind.u64.wrap ((l0.length : Int))))) then (if (wrap64 (Int.tmod (IntKind.u64.wrap (a1)) (IntKind.u64.wrap ((l0.length : Int))))) < (y356.length : Int) then ((merkle_Root.f kj3 l0).bind fun bt360 => ((merkle_Root.f kj3 (y356.set ((wrap64 (Int.tmod (IntKind.u64.wrap (a1)) (IntKind.u64.wrap ((l0.length : Int))))) : Int).toNat a2)).bind fun bt362 => (if (wrap64 (Int.tmod (IntKind.u64.wrap (a1)) (IntKind.u64.wrap ((l0.length : Int))))) < (l0.length : Int) then (if a2.toList = (rdOf ByteArray.empty l0 (wrap64 (Int.tmod (IntKind.u64.wrap (a1)) (IntKind.u64.wrap ((l0.length : Int)))))).toList then (palaverlaw04_MerkleApart.j1 kj3 l0 a2 (wrap64 (Int.tmod (IntKind.u64.wrap (a1)) (IntKind.u64.wrap ((l0.length : Int))))) bt360.1 bt362.1 true) else (palaverlaw04_MerkleApart.j1 kj3 l0 a2 (wrap64 (Int.tmod (IntKind.u64.wrap (a1)) (IntKind.u64.wrap ((l0.length : Int))))) bt360.1 bt362.1 (bt360.1.toList != bt362.1.toList))) else (none)))) else (none)) else (none))) else (none)) = some r := by first | (rw [hy353]; with_reducible exact H) | (have H2_ := (Option.bind_some _ _).symm.trans H; rw [hy353]; with_reducible exact H2_) | (have H2_ := (Option.bind_some _ _).symm.trans H; with_reducible exact H2_) | with_reducible exact H | (rw [hy353]; exact H) | exact H
     have Ny353 := Aside0.mk hy353
     clear hy353
     by_cases c13 : y353.length + l0.length < 8796093022208
     rotate_left
     ·rw [if_neg c13] at H
      exact absurd H (by simp)
     rw [if_pos c13] at H
     have LMc13 := Aside0.mk c13
     clear c13
     obtain ⟨y356, hy356⟩ : ∃ y_ : List ByteArray, y_ = (y353 ++ l0) := ⟨_, rfl⟩
     replace H : (if 0 ≤ (wrap64 (Int.tmod (IntKind.u64.wrap (a1)) (IntKind.u64.wrap ((l0.length : Int))))) then (if (wrap64 (Int.tmod (IntKind.u64.wrap (a1)) (IntKind.u64.wrap ((l0.length : Int))))) < (y356.length : Int) then ((merkle_Root.f kj3 l0).bind fun bt360 => ((merkle_Root.f kj3 (y356.set ((wrap64 (Int.tmod (IntKind.u64.wrap (a1)) (IntKind.u64.wrap ((l0.length : Int))))) : Int).toNat a2)).bind fun bt362 => (if (wrap64 (Int.tmod (IntKind.u64.wrap (a1)) (IntKind.u64.wrap ((l0.length : Int))))) < (l0.length : Int) then (if a2.toList = (rdOf ByteArray.empty l0 (wrap64 (Int.tmod (IntKind.u64.wrap (a1)) (IntKind.u64.wrap ((l0.length : Int)))))).toList then (palaverlaw04_MerkleApart.j1 kj3 l0 a2 (wrap64 (Int.tmod (IntKind.u64.wrap (a1)) (IntKind.u64.wrap ((l0.length : Int))))) bt360.1 bt362.1 true) else (palaverlaw04_MerkleApart.j1 kj3 l0 a2 (wrap64 (Int.tmod (IntKind.u64.wrap (a1)) (IntKind.u64.wrap ((l0.length : Int))))) bt360.1 bt362.1 (bt360.1.toList != bt362.1.toList))) else (none)))) else (none)) else (none)) = some r := by first | (rw [hy356]; with_reducible exact H) | (have H2_ := (Option.bind_some _ _).symm.trans H; rw [hy356]; with_reducible exact H2_) | (have H2_ := (Option.bind_some _ _).symm.trans H; with_reducible exact H2_) | with_reducible exact H | (rw [hy356]; exact H) | exact H
     have Ny356 := Aside0.mk hy356
     clear hy356
     obtain ⟨ji14, hji14⟩ : ∃ j_ : Int, (wrap64 (Int.tmod (IntKind.u64.wrap (a1)) (IntKind.u64.wrap ((l0.length : Int))))) = j_ := ⟨_, rfl⟩
     replace H : (if 0 ≤ (ji14) then (if (ji14) < (y356.length : Int) then ((merkle_Root.f kj3 l0).bind fun bt360 => ((merkle_Root.f kj3 (y356.set ((ji14) : Int).toNat a2)).bind fun bt362 => (if (ji14) < (l0.length : Int) then (if a2.toList = (rdOf ByteArray.empty l0 (ji14)).toList then (palaverlaw04_MerkleApart.j1 kj3 l0 a2 ji14 bt360.1 bt362.1 true) else (palaverlaw04_MerkleApart.j1 kj3 l0 a2 ji14 bt360.1 bt362.1 (bt360.1.toList != bt362.1.toList))) else (none)))) else (none)) else (none)) = some r := by first | (rw [hji14] at H; exact H) | (simp only [hji14] at H ⊢; exact H)
     (try (have hji14o := hji14; simp only [u64_len (show l0.length ≤ 9223372036854775807 by omega)] at hji14o))
     have hji14w : (IntKind.i64.wrap (Int.tmod (IntKind.u64.wrap (a1)) (IntKind.u64.wrap ((l0.length : Int))))) = ji14 := (i64_w _).trans hji14
     by_cases c15 : 0 ≤ (ji14)
     rotate_left
     ·rw [if_neg c15] at H
      exact absurd H (by simp)
     rw [if_pos c15] at H
     have c15b0 : decide (0 ≤ (ji14)) = true := decide_eq_true c15
     clear c15
     by_cases c16 : (ji14) < (y356.length : Int)
     rotate_left
     ·rw [if_neg c16] at H
      exact absurd H (by simp)
     rw [if_pos c16] at H
     have c16b0 : decide ((ji14) < (y356.length : Int)) = true := decide_eq_true c16
     clear c16
     obtain ⟨y359, hy359⟩ : ∃ y_ : List ByteArray, y_ = (y356.set ((ji14) : Int).toNat a2) := ⟨_, rfl⟩
     replace H : ((merkle_Root.f kj3 l0).bind fun bt360 => ((merkle_Root.f kj3 y359).bind fun bt362 => (if (ji14) < (l0.length : Int) then (if a2.toList = (rdOf ByteArray.empty l0 (ji14)).toList then (palaverlaw04_MerkleApart.j1 kj3 l0 a2 ji14 bt360.1 bt362.1 true) else (palaverlaw04_MerkleApart.j1 kj3 l0 a2 ji14 bt360.1 bt362.1 (bt360.1.toList != bt362.1.toList))) else (none)))) = some r := by first | (rw [hy359]; with_reducible exact H) | (have H2_ := (Option.bind_some _ _).symm.trans H; rw [hy359]; with_reducible exact H2_) | (have H2_ := (Option.bind_some _ _).symm.trans H; with_reducible exact H2_) | with_reducible exact H | (rw [hy359]; exact H) | exact H
     have Ny359 := Aside0.mk hy359
     clear hy359
     replace H := Option.bind_eq_some_iff.mp H
     obtain ⟨⟨t360, t361⟩, A180, H⟩ := H
     replace H : ((merkle_Root.f kj3 y359).bind fun bt362 => (if (ji14) < (l0.length : Int) then (if a2.toList = (rdOf ByteArray.empty l0 (ji14)).toList then (palaverlaw04_MerkleApart.j1 kj3 l0 a2 ji14 t360 bt362.1 true) else (palaverlaw04_MerkleApart.j1 kj3 l0 a2 ji14 t360 bt362.1 (t360.toList != bt362.1.toList))) else (none))) = some r := H
     have A18 := Aside0.mk A180
     clear A180
     replace H := Option.bind_eq_some_iff.mp H
     obtain ⟨⟨t362, t363⟩, A190, H⟩ := H
     replace H : (if (ji14) < (l0.length : Int) then (if a2.toList = (rdOf ByteArray.empty l0 (ji14)).toList then (palaverlaw04_MerkleApart.j1 kj3 l0 a2 ji14 t360 t362 true) else (palaverlaw04_MerkleApart.j1 kj3 l0 a2 ji14 t360 t362 (t360.toList != t362.toList))) else (none)) = some r := H
     have A19 := Aside0.mk A190
     clear A190
     have HC20 := Aside0.mk H
     clear H
     go_upto_region 8 with (first | ((with_reducible refine gate_dst (N := 42) rfl ?_); (try (refine gate_guard (by rfl) ?_; dsimp only)); refine Kd.R_lit Kd.string _ 9 ?hg (N := 42) ?hd (xs := ([] : List ByteArray)) (inner := []) (ok := fun _ => True) (okp := fun _ => True) ?hr ?hp (fun _ hk => hk) trivial (Below.refl _ _) (Nat.le_refl _) (by simp) ?_; (case hd => rfl); (case hg => rfl); (case hr => first | (go_simp; done) | (go_simp; rfl)); (case hp => exact (Reps.none _ _)); intro v354 w21 ho22 hb hg_ hnew_; clear hg_ hnew_; (first | rw [← Ny353.out] at ho22 | (simp only [Int.reduceToNat] at ho22; rw [← Ny353.out] at ho22)); have n0_ := Aside0.mk (Kd.R_lower ho22 (below_size (by repeat (first | (with_reducible first | exact HB.out | apply below_alloc | apply pw_below_drewN | apply below_drew1) | exact HB.out)))); have n1_ := Aside0.mk (below_step (by repeat (first | (with_reducible first | exact HB.out | apply below_alloc | apply pw_below_drewN | apply below_drew1) | exact HB.out)) hb); clear HB; have HO355 := n0_; have HB := n1_; clear n0_ n1_; clear hb ho22) | ((with_reducible refine gate_builtin (b := .append) (xs := #[.tmp 42, .tmp 43]) rfl ?_); (try (refine gate_guard (by rfl) ?_; dsimp only)); at_builtin; refine Kd.R_append_rows Kd.string (w0 := w) w.heap.size rfl (.tmp 42) (.tmp 43) 22 9 (.string ⟨#[]⟩) 16 rfl Tryd.underlying22 info9 rfl (by decide) (by omega) v354 y353 l0 _ _ _ (fun _ => True) (fun _ => False) rfl rfl ?aO ?aR (fun _ _ h => h) (fun _ h => h.elim) ?aF ?aB ?aS ?aL ?_; (case aR => repeat (first | exact (Kd.C_below HR0.out HB.out) | (with_reducible refine Kd.C_alloc ?_ _) | (with_reducible refine Kd.C_drewN ?_ _) | (with_reducible refine Kd.C_drew ?_))); (case aB => exact (by repeat (first | (with_reducible first | exact HB.out | apply below_alloc | apply pw_below_drewN | apply below_drew1) | exact HB.out))); (case aF => exact (fun _ _ => trivial)); (case aO => exact (by (with_reducible repeat (first | apply Kd.R_alloc | apply Kd.R_drewN | apply Kd.R_drew)); exact HO355.out)); (case aS => exact (below_size (by repeat (first | (with_reducible first | exact HB.out | apply below_alloc | apply pw_below_drewN | apply below_drew1) | exact HB.out)))); (case aL => have := LMc13.out; omega); intro v357 w23 ho hb hg hat; rw [← Ny356.out] at ho; have n0_ := Aside0.mk (hb); have n1_ := Aside0.mk (ho); clear HB; clear HO355; have HB := n0_; have HO358 := n1_; clear n0_ n1_; clear ho hb hg hat; have p17 : 0 ≤ ((ji14) : Int) := of_decide_eq_true (by first | (with_reducible assumption) | assumption); have q17 : ((ji14) : Int) < ((y356.length : Int) : Int) := of_decide_eq_true (by first | (with_reducible assumption) | assumption); obtain ⟨go17, co17, eo17, gb17, gl17, cl17, HG17⟩ := Kd.R_form HO358.out (by omega); (first | cases eo17 | (injection eo17 with ea_ en_ ec_; (first | subst ea_ | (injection ea_ with ea_; subst ea_)); subst ec_; clear en_)); have GB17 := Aside0.mk gb17; have GG17 := Aside0.mk HG17; clear gb17 gl17 HG17; obtain ⟨hx17_0, hf17_0⟩ := Kd.R_celln (⟨#[]⟩ : ByteArray) HO358.out ((ji14) : Int) p17 q17; replace p17 := eq_true p17; replace q17 := eq_true q17; obtain ⟨hy24_, hz24_⟩ := Kd.R_celln (⟨#[]⟩ : ByteArray) HO358.out ((ji14) : Int) (of_decide_eq_true (by first | (with_reducible assumption) | assumption)) (of_decide_eq_true (by first | (with_reducible assumption) | assumption)); have HP24 := Kd.R_putg HO358.out ((ji14) : Int) a2) | ((with_reducible refine gate_store (t := 9) (p := 48) rfl ?_); refine store_event (t := 9) (p := 48) (v := ?vo_w25) (w1 := (w23.setCell ⟨go17, ((ji14) : Int).toNat, none⟩ (.string a2))) ?hg ?ho ?hn ?hr ?_; (case ho => rfl); (case hg => rfl); (case hn => rfl); (case hr => first | (go_simp; done) | (go_simp; rfl)); intro w25 hw; have hg : w23.grownBy w25 (some go17) := (by rw [hw]; exact HP24.2); have hp_ : Kd.R Kd.string 9 w25 w.heap.size (fun _ => True) (.slice (some ⟨go17, 0, none⟩) y356.length co17) y359 := (by rw [hw, Ny359.out]; exact HP24.1); clear HP24; have n0_ := Aside0.mk (hp_); have n1_ := Aside0.mk ((by rw [hw]; exact below_set (HB.out) GB17.out : Below w.heap.size w w25)); clear HO358; clear HB; have HO358 := n0_; have HB := n1_; clear n0_ n1_; clear hg hw hp_) | ((with_reducible refine gate_callee (f := 11) rfl ?_); refine goesL_ (some 51) rfl rfl Tryd.func11 (by kernel_rfl) rfl #[.slice A0 l0.length c0] rfl (by (try simp only [List.map_toArray, List.map_cons, List.map_nil]); first | done | rfl | (simp only [List.length_drop, List.length_take]; rfl)) ?_; (with_reducible refine (merkle_Root.calls kj3 _ _ l0 t360 t361 _ ?side1 ?side2 ?side3 A18.out).mono ?_); (case side1 => repeat (first | exact (Kd.C_below HR0.out HB.out) | (with_reducible refine Kd.C_alloc ?_ _) | (with_reducible refine Kd.C_drewN ?_ _) | (with_reducible refine Kd.C_drew ?_))); (case side2 => exact HC0.out); (case side3 => repeat (first | exact (Kd.C_below HRG.out HB.out) | (with_reducible refine Kd.C_alloc ?_ _) | (with_reducible refine Kd.C_drewN ?_ _) | (with_reducible refine Kd.C_drew ?_))); rintro e w26 ⟨rfl, hb⟩; refine ⟨_, rfl, ?_⟩; have n0_ := Aside0.mk (Kd.R_below (by (with_reducible repeat (first | apply Kd.R_alloc | apply Kd.R_drewN | apply Kd.R_drew)); exact HO358.out) hb); have n1_ := Aside0.mk (below_step (by repeat (first | (with_reducible first | exact HB.out | apply below_alloc | apply pw_below_drewN | apply below_drew1) | exact HB.out)) hb); clear HO358; clear HB; have HO358 := n0_; have HB := n1_; clear n0_ n1_; (try clear hb); (try clear hb2); (try clear hk); (try clear hi)) | ((with_reducible refine gate_callee (f := 11) rfl ?_); refine goesL_ (some 56) rfl rfl Tryd.func11 (by kernel_rfl) rfl #[.slice (some ⟨go17, 0, none⟩) y359.length co17] rfl (by (try simp only [List.map_toArray, List.map_cons, List.map_nil]); first | done | (rw [show y359.length = y356.length from (Kd.R_reads' HO358.out).1.symm] <;> rfl) | rfl | (simp only [List.length_drop, List.length_take]; rfl)) ?_; (with_reducible refine (merkle_Root.calls kj3 _ _ y359 t362 t363 _ ?side1 ?side2 ?side3 A19.out).mono ?_); (case side1 => repeat (first | exact (Kd.R_reads' HO358.out).2.2 | (with_reducible refine Kd.C_alloc ?_ _) | (with_reducible refine Kd.C_drewN ?_ _) | (with_reducible refine Kd.C_drew ?_))); (case side2 => rw [show y359.length = y356.length from (Kd.R_reads' HO358.out).1.symm]; exact (Kd.R_reads' HO358.out).2.1); (case side3 => repeat (first | exact (Kd.C_below HRG.out HB.out) | (with_reducible refine Kd.C_alloc ?_ _) | (with_reducible refine Kd.C_drewN ?_ _) | (with_reducible refine Kd.C_drew ?_))); rintro e w27 ⟨rfl, hb⟩; refine ⟨_, rfl, ?_⟩; have n0_ := Aside0.mk (Kd.R_below (by (with_reducible repeat (first | apply Kd.R_alloc | apply Kd.R_drewN | apply Kd.R_drew)); exact HO358.out) hb); have n1_ := Aside0.mk (below_step (by repeat (first | (with_reducible first | exact HB.out | apply below_alloc | apply pw_below_drewN | apply below_drew1) | exact HB.out)) hb); clear HO358; clear HB; have HO358 := n0_; have HB := n1_; clear n0_ n1_; (try clear hb); (try clear hb2); (try clear hk); (try clear hi)))
     (try simp only [Act.put, List.setIfInBounds_toArray, List.set_cons_zero, List.set_cons_succ])
     go_cut [69] (fun v69 wc => ∃ (kq : Nat) (x69_19 : Bool), v69 = .bool x69_19 ∧ Aside0 (palaverlaw04_MerkleApart.j1 kq l0 a2 ji14 t360 t362 x69_19 = some r) ∧ Aside0 (kq ≤ kj3) ∧ Aside0 (Below w.heap.size w wc))
     case first =>
      have H := HC20.out
      clear HC20
      by_cases c28 : (ji14) < (l0.length : Int)
      rotate_left
      ·rw [if_neg c28] at H
       exact absurd H (by simp)
      rw [if_pos c28] at H
      have c28b0 : decide ((ji14) < (l0.length : Int)) = true := decide_eq_true c28
      clear c28
      (first | rw [c28b0] | (simp only [i64_w, i32_w]; rw [c28b0]) | skip)
      by_cases c29 : a2.toList = (rdOf ByteArray.empty l0 (ji14)).toList
      ·rw [if_pos c29] at H
       have c29b0 : (a2.toList == (rdOf ByteArray.empty l0 (ji14)).toList) = true := beq_iff_eq.mpr c29
       have c29b1 : (a2.toList != (rdOf ByteArray.empty l0 (ji14)).toList) = false := bne_eq_false_iff_eq.mpr c29
       clear c29
       have H' := Aside0.mk H
       clear H
       have p364 : 0 ≤ ((ji14) : Int) := of_decide_eq_true (by first | (with_reducible assumption) | assumption)
       have q364 : (ji14) < (l0.length : Int) := of_decide_eq_true (by first | (with_reducible assumption) | assumption)
       obtain ⟨ad364, e364, hx364_0⟩ := Kd.at_string HR0.out (ji14) p364 q364
       cases e364
       replace hx364_0 := (HB.out.cell (World.block_lt_of_cell? w _ hx364_0)).trans hx364_0
       replace p364 := eq_true p364
       replace q364 := eq_true q364
       go_wp2
       go_meet
       case rel => exact ⟨_, (true), (by first | rfl | (simp; done) | (simp [*]; done) | exact congrArg Value.bool (nonempty_l _) | (refine congrArg (Value.int _) ?_; first | omega | (unfold Go.RowKit.wrap64; omega))), H', ⟨by have := HJ3.out; first | omega | exact Nat.le_refl _⟩, ⟨by repeat (first | (with_reducible first | exact HB.out | apply below_alloc | apply pw_below_drewN | apply below_drew1) | exact HB.out)⟩⟩
      ·rw [if_neg c29] at H
       have c29b0 : (a2.toList == (rdOf ByteArray.empty l0 (ji14)).toList) = false := beq_eq_false_iff_ne.mpr c29
       have c29b1 : (a2.toList != (rdOf ByteArray.empty l0 (ji14)).toList) = true := bne_iff_ne.mpr c29
       have H' := Aside0.mk H
       clear H
       have p364 : 0 ≤ ((ji14) : Int) := of_decide_eq_true (by first | (with_reducible assumption) | assumption)
       have q364 : (ji14) < (l0.length : Int) := of_decide_eq_true (by first | (with_reducible assumption) | assumption)
       obtain ⟨ad364, e364, hx364_0⟩ := Kd.at_string HR0.out (ji14) p364 q364
       cases e364
       replace hx364_0 := (HB.out.cell (World.block_lt_of_cell? w _ hx364_0)).trans hx364_0
       replace p364 := eq_true p364
       replace q364 := eq_true q364
       go_wp2
       go_meet
       case rel => exact ⟨_, ((t360.toList != t362.toList)), (by first | rfl | (simp; done) | (simp [*]; done) | exact congrArg Value.bool (nonempty_l _) | (refine congrArg (Value.int _) ?_; first | omega | (unfold Go.RowKit.wrap64; omega))), H', ⟨by have := HJ3.out; first | omega | exact Nat.le_refl _⟩, ⟨by repeat (first | (with_reducible first | exact HB.out | apply below_alloc | apply pw_below_drewN | apply below_drew1) | exact HB.out)⟩⟩
     case rest =>
      clear HC20
      (try clear c1); (try clear p1); (try clear q1); (try clear hx1); (try clear c2); (try clear p2); (try clear p3); (try clear q3); (try clear hx3); (try clear c5); (try clear c6); (try clear p6); (try clear c7); (try clear c7b0); (try clear c7b1); (try clear c9); (try clear c10); (try clear c11); (try clear c12); (try clear c12b0); (try clear c12b1); (try clear c12b7); (try clear c12b8); (try clear c13); (try clear c15); (try clear c15b0); (try clear c16); (try clear c16b0); (try clear p17); (try clear q17); (try clear hx17); (try clear hf17); (try clear c28); (try clear c28b0); (try clear c29); (try clear c29b0); (try clear c29b1); (try clear hx17_0); (try clear hx364_0); (try clear p17); (try clear p2); (try clear p364); (try clear p6); (try clear q17); (try clear q364)
      obtain ⟨kq, x69_19, rfl, HA, HJ19, HB⟩ := hcut
      cases kq with
      | zero => exact absurd HA.out (by simp [palaverlaw04_MerkleApart.j1])
      | succ kj19 =>
       have H := HA.out
       clear HA
       simp only [palaverlaw04_MerkleApart.j1] at H
       by_cases c30 : x69_19 = true
       ·subst c30
        have H1 : (if 0 ≤ ji14 then (if ji14 < (l0.length : Int) then (if ((t360.toList == t362.toList) == (a2.toList == (rdOf ByteArray.empty l0 ji14).toList)) = true then ((palaverlaw04_awake.f kj19).bind fun t366 => (some t366)) else (some false)) else (none)) else (none)) = some r := by rw [if_pos rfl] at H; exact H
        clear H
        have H := H1
        clear H1
        by_cases c31 : 0 ≤ ji14
        rotate_left
        ·rw [if_neg c31] at H
         exact absurd H (by simp)
        rw [if_pos c31] at H
        have c31b0 : decide (0 ≤ ji14) = true := decide_eq_true c31
        clear c31
        by_cases c32 : ji14 < (l0.length : Int)
        rotate_left
        ·rw [if_neg c32] at H
         exact absurd H (by simp)
        rw [if_pos c32] at H
        have c32b0 : decide (ji14 < (l0.length : Int)) = true := decide_eq_true c32
        clear c32
        by_cases c33 : ((t360.toList == t362.toList) == (a2.toList == (rdOf ByteArray.empty l0 ji14).toList)) = true
        ·rw [if_pos c33] at H
         have c33b0 : ((t360.toList == t362.toList) == (a2.toList == (rdOf ByteArray.empty l0 ji14).toList)) = true := c33
         (try (have c33b1 : decide ((t360.toList == t362.toList) = (a2.toList == (rdOf ByteArray.empty l0 ji14).toList)) = true := by simpa using c33))
         (try (have c33b2 : ((t360.toList == t362.toList) == (a2.toList == (rdOf ByteArray.empty l0 ji14).toList)) = true := by simpa using c33))
         clear c33
         replace H := Option.bind_eq_some_iff.mp H
         obtain ⟨t366, A340, H⟩ := H
         replace H : (some t366) = some r := H
         have A34 := Aside0.mk A340
         clear A340
         obtain rfl := Option.some.inj H
         have p365 : 0 ≤ (ji14 : Int) := of_decide_eq_true (by first | (with_reducible assumption) | assumption)
         have q365 : ji14 < (l0.length : Int) := of_decide_eq_true (by first | (with_reducible assumption) | assumption)
         obtain ⟨ad365, e365, hx365_0⟩ := Kd.at_string HR0.out ji14 p365 q365
         cases e365
         replace hx365_0 := (HB.out.cell (World.block_lt_of_cell? w _ hx365_0)).trans hx365_0
         replace p365 := eq_true p365
         replace q365 := eq_true q365
         go_wp2_with (first | (go_at_call 10; (with_reducible refine (palaverlaw04_awake.calls kj19  t366 _ ?side1 A34.out).mono ?_); (case side1 => repeat (first | exact (Kd.C_below HRG.out HB.out) | (with_reducible refine Kd.C_alloc ?_ _) | (with_reducible refine Kd.C_drewN ?_ _) | (with_reducible refine Kd.C_drew ?_))); rintro e w35 ⟨rfl, hb⟩; have n0_ := Aside0.mk (below_step (by repeat (first | (with_reducible first | exact HB.out | apply below_alloc | apply pw_below_drewN | apply below_drew1) | exact HB.out)) hb); clear HB; have HB := n0_; clear n0_; (try clear hb); (try clear hb2); (try clear hk); (try clear hi)))
         go_ret
         exact ⟨by first | rfl | (simp [errW_none, errW_some] <;> rfl) | (simp only [← hji14]; first | rfl | (simp [errW_none, errW_some] <;> rfl)) | (simp [*, errW_none, errW_some] <;> rfl), by repeat (first | (with_reducible first | exact HB.out | apply below_alloc | apply pw_below_drewN | apply below_drew1) | exact HB.out)⟩
        ·rw [if_neg c33] at H
         have c33b0 : ((t360.toList == t362.toList) == (a2.toList == (rdOf ByteArray.empty l0 ji14).toList)) = false := by simpa using c33
         (try (have c33b1 : decide ((t360.toList == t362.toList) = (a2.toList == (rdOf ByteArray.empty l0 ji14).toList)) = false := by simpa using c33))
         (try (have c33b2 : ((t360.toList == t362.toList) == (a2.toList == (rdOf ByteArray.empty l0 ji14).toList)) = false := by simpa using c33))
         (try (have c33b3 : ¬ ((t360.toList == t362.toList) = (a2.toList == (rdOf ByteArray.empty l0 ji14).toList)) := by simpa using c33))
         clear c33
         obtain rfl := Option.some.inj H
         have p365 : 0 ≤ (ji14 : Int) := of_decide_eq_true (by first | (with_reducible assumption) | assumption)
         have q365 : ji14 < (l0.length : Int) := of_decide_eq_true (by first | (with_reducible assumption) | assumption)
         obtain ⟨ad365, e365, hx365_0⟩ := Kd.at_string HR0.out ji14 p365 q365
         cases e365
         replace hx365_0 := (HB.out.cell (World.block_lt_of_cell? w _ hx365_0)).trans hx365_0
         replace p365 := eq_true p365
         replace q365 := eq_true q365
         go_wp2
         go_ret
         exact ⟨by first | rfl | (simp [errW_none, errW_some] <;> rfl) | (simp only [← hji14]; first | rfl | (simp [errW_none, errW_some] <;> rfl)) | (simp [*, errW_none, errW_some] <;> rfl), by repeat (first | (with_reducible first | exact HB.out | apply below_alloc | apply pw_below_drewN | apply below_drew1) | exact HB.out)⟩
       ·replace c30 := Bool.eq_false_iff.mpr c30
        subst c30
        have H1 : ((palaverref04_Path.f kj19 l0 ji14).bind fun t367 => (if 0 ≤ ji14 then (if ji14 < (l0.length : Int) then ((palaverref04_Fold.f kj19 (rdOf ByteArray.empty l0 ji14) ji14 t367).bind fun bt371 => ((palaverref04_Fold.f kj19 a2 ji14 t367).bind fun bt376 => (palaverlaw04_MerkleApart.l0 kj19 bt371.2.1 bt376.2.1 0))) else (none)) else (none))) = some r := by rw [if_neg (show ¬ (false = true) by decide)] at H; exact H
        clear H
        have H := H1
        clear H1
        replace H := Option.bind_eq_some_iff.mp H
        obtain ⟨t367, A360, H⟩ := H
        replace H : (if 0 ≤ ji14 then (if ji14 < (l0.length : Int) then ((palaverref04_Fold.f kj19 (rdOf ByteArray.empty l0 ji14) ji14 t367).bind fun bt371 => ((palaverref04_Fold.f kj19 a2 ji14 t367).bind fun bt376 => (palaverlaw04_MerkleApart.l0 kj19 bt371.2.1 bt376.2.1 0))) else (none)) else (none)) = some r := H
        have A36 := Aside0.mk A360
        clear A360
        by_cases c37 : 0 ≤ ji14
        rotate_left
        ·rw [if_neg c37] at H
         exact absurd H (by simp)
        rw [if_pos c37] at H
        have c37b0 : decide (0 ≤ ji14) = true := decide_eq_true c37
        clear c37
        by_cases c38 : ji14 < (l0.length : Int)
        rotate_left
        ·rw [if_neg c38] at H
         exact absurd H (by simp)
        rw [if_pos c38] at H
        have c38b0 : decide (ji14 < (l0.length : Int)) = true := decide_eq_true c38
        clear c38
        replace H := Option.bind_eq_some_iff.mp H
        obtain ⟨⟨t371, t372, t373⟩, A390, H⟩ := H
        replace H : ((palaverref04_Fold.f kj19 a2 ji14 t367).bind fun bt376 => (palaverlaw04_MerkleApart.l0 kj19 t372 bt376.2.1 0)) = some r := H
        have A39 := Aside0.mk A390
        clear A390
        replace H := Option.bind_eq_some_iff.mp H
        obtain ⟨⟨t376, t377, t378⟩, A400, H⟩ := H
        replace H : (palaverlaw04_MerkleApart.l0 kj19 t372 t377 0) = some r := H
        have A40 := Aside0.mk A400
        clear A400
        have H' := Aside0.mk H
        clear H
        go_wp2_with (first | ((with_reducible refine gate_callee (f := 16) rfl ?_); refine goesL_ (some 85) rfl rfl Tryd.func16 (by kernel_rfl) rfl #[.slice A0 l0.length c0, .int .i64 ji14] rfl (by (try simp only [List.map_toArray, List.map_cons, List.map_nil]); first | done | (simp only [hji14]; rfl) | rfl | (simp only [List.length_drop, List.length_take]; rfl)) ?_; (with_reducible refine (palaverref04_Path.calls kj19 _ _ l0 ji14 t367 _ ?side1 ?side2 A36.out).mono ?_); (case side1 => repeat (first | exact (Kd.C_below HR0.out HB.out) | (with_reducible refine Kd.C_alloc ?_ _) | (with_reducible refine Kd.C_drewN ?_ _) | (with_reducible refine Kd.C_drew ?_))); (case side2 => exact HC0.out); rintro e w41 ⟨v368, rfl, ho0, hb⟩; refine ⟨_, rfl, ?_⟩; have n0_ := Aside0.mk (Kd.R_lower ho0 (below_size (by repeat (first | (with_reducible first | exact HB.out | apply below_alloc | apply pw_below_drewN | apply below_drew1) | exact HB.out)))); have n1_ := Aside0.mk (below_step (by repeat (first | (with_reducible first | exact HB.out | apply below_alloc | apply pw_below_drewN | apply below_drew1) | exact HB.out)) hb); clear HB; have HO369 := n0_; have HB := n1_; clear n0_ n1_; (try clear hb); (try clear hb2); (try clear hk); (try clear hi); (try clear ho0); have p370 : 0 ≤ (ji14 : Int) := of_decide_eq_true (by first | (with_reducible assumption) | assumption); have q370 : ji14 < (l0.length : Int) := of_decide_eq_true (by first | (with_reducible assumption) | assumption); obtain ⟨ad370, e370, hx370_0⟩ := Kd.at_string HR0.out ji14 p370 q370; cases e370; replace hx370_0 := (HB.out.cell (World.block_lt_of_cell? w _ hx370_0)).trans hx370_0; replace p370 := eq_true p370; replace q370 := eq_true q370; obtain ⟨Ao42, co42, eo42⟩ := Kd.R_slice HO369.out; subst eo42) | ((with_reducible refine gate_callee (f := 17) rfl ?_); refine goesL_ (some 93) rfl rfl Tryd.func17 (by kernel_rfl) rfl #[.string (rdOf ByteArray.empty l0 ji14), .int .i64 ji14, .slice Ao42 t367.length co42] rfl (by (try simp only [List.map_toArray, List.map_cons, List.map_nil]); first | done | (simp only [hji14]; rfl) | rfl | (simp only [List.length_drop, List.length_take]; rfl)) ?_; (with_reducible refine (palaverref04_Fold.calls kj19 (rdOf ByteArray.empty l0 ji14) ji14 _ _ t367 t371 t372 t373 _ ?side1 ?side2 A39.out).mono ?_); (case side1 => repeat (first | exact (Kd.R_reads' HO369.out).2.2 | (with_reducible refine Kd.C_alloc ?_ _) | (with_reducible refine Kd.C_drewN ?_ _) | (with_reducible refine Kd.C_drew ?_))); (case side2 => exact (Kd.R_reads' HO369.out).2.1); rintro e w43 ⟨v374, rfl, ho0, hb⟩; refine ⟨_, rfl, ?_⟩; have n0_ := Aside0.mk (Kd.R_elder' (by (with_reducible repeat (first | apply Kd.R_alloc | apply Kd.R_drewN | apply Kd.R_drew)); exact HO369.out) (Kd.R_base ho0) hb); have n1_ := Aside0.mk (Kd.R_lower (Kd.R_new' ho0 (Kd.R_lt (by (with_reducible repeat (first | apply Kd.R_alloc | apply Kd.R_drewN | apply Kd.R_drew)); exact HO369.out))) (below_size (by repeat (first | (with_reducible first | exact HB.out | apply below_alloc | apply pw_below_drewN | apply below_drew1) | exact HB.out)))); have n2_ := Aside0.mk (below_step (by repeat (first | (with_reducible first | exact HB.out | apply below_alloc | apply pw_below_drewN | apply below_drew1) | exact HB.out)) hb); clear HO369; clear HB; have HO369 := n0_; have HO375 := n1_; have HB := n2_; clear n0_ n1_ n2_; (try clear hb); (try clear hb2); (try clear hk); (try clear hi); (try clear ho0)) | ((with_reducible refine gate_callee (f := 17) rfl ?_); refine goesL_ (some 101) rfl rfl Tryd.func17 (by kernel_rfl) rfl #[.string a2, .int .i64 ji14, .slice Ao42 t367.length co42] rfl (by (try simp only [List.map_toArray, List.map_cons, List.map_nil]); first | done | (simp only [hji14]; rfl) | rfl | (simp only [List.length_drop, List.length_take]; rfl)) ?_; (with_reducible refine (palaverref04_Fold.calls kj19 a2 ji14 _ _ t367 t376 t377 t378 _ ?side1 ?side2 A40.out).mono ?_); (case side1 => repeat (first | exact (Kd.R_reads' HO369.out).2.2 | (with_reducible refine Kd.C_alloc ?_ _) | (with_reducible refine Kd.C_drewN ?_ _) | (with_reducible refine Kd.C_drew ?_))); (case side2 => exact (Kd.R_reads' HO369.out).2.1); rintro e w44 ⟨v379, rfl, ho0, hb⟩; refine ⟨_, rfl, ?_⟩; have n0_ := Aside0.mk (Kd.R_elder' (by (with_reducible repeat (first | apply Kd.R_alloc | apply Kd.R_drewN | apply Kd.R_drew)); exact HO369.out) (Kd.R_base ho0) hb); have n1_ := Aside0.mk (Kd.R_elder' (by (with_reducible repeat (first | apply Kd.R_alloc | apply Kd.R_drewN | apply Kd.R_drew)); exact HO375.out) (Kd.R_base ho0) hb); have n2_ := Aside0.mk (Kd.R_lower (Kd.R_new' (Kd.R_new' ho0 (Kd.R_lt (by (with_reducible repeat (first | apply Kd.R_alloc | apply Kd.R_drewN | apply Kd.R_drew)); exact HO369.out))) (Kd.R_lt (by (with_reducible repeat (first | apply Kd.R_alloc | apply Kd.R_drewN | apply Kd.R_drew)); exact HO375.out))) (below_size (by repeat (first | (with_reducible first | exact HB.out | apply below_alloc | apply pw_below_drewN | apply below_drew1) | exact HB.out)))); have n3_ := Aside0.mk (below_step (by repeat (first | (with_reducible first | exact HB.out | apply below_alloc | apply pw_below_drewN | apply below_drew1) | exact HB.out)) hb); clear HO369; clear HO375; clear HB; have HO369 := n0_; have HO375 := n1_; have HO380 := n2_; have HB := n3_; clear n0_ n1_ n2_ n3_; (try clear hb); (try clear hb2); (try clear hk); (try clear hi); (try clear ho0)))
        go_loopg [20] kj19 (fun kq v20 w' => ∃ (x20_3 : Int), v20 = .int .i64 x20_3 ∧ Aside0 (palaverlaw04_MerkleApart.l0 kq t372 t377 x20_3 = some r) ∧ Aside0 (kq ≤ kj19) ∧ Aside0 (Kd.R Kd.string 9 w' w.heap.size (fun k_ => some k_ ≠ (v379 : Value).ownBlock) v374 t372) ∧ Aside0 (Kd.R Kd.string 9 w' w.heap.size (fun k_ => some k_ ≠ (v374 : Value).ownBlock) v379 t377) ∧ Aside0 (Below w.heap.size w w'))
        case atStart => exact ⟨(0), (by first | rfl | (simp; done) | (simp [*]; done) | exact congrArg Value.bool (nonempty_l _) | (refine congrArg (Value.int _) ?_; first | omega | (unfold Go.RowKit.wrap64; omega))), H', ⟨Nat.le_refl _⟩, ⟨by (with_reducible repeat (first | apply Kd.R_alloc | apply Kd.R_drewN | apply Kd.R_drew)); exact Kd.R_mono HO375.out (fun _ hk => hk.2)⟩, ⟨by (with_reducible repeat (first | apply Kd.R_alloc | apply Kd.R_drewN | apply Kd.R_drew)); exact Kd.R_mono HO380.out (fun _ hk => hk.2)⟩, ⟨by repeat (first | (with_reducible first | exact HB.out | apply below_alloc | apply pw_below_drewN | apply below_drew1) | exact HB.out)⟩⟩
        case round =>
         clear H'
         (try clear c1); (try clear p1); (try clear q1); (try clear hx1); (try clear c2); (try clear p2); (try clear c3); (try clear p3); (try clear q3); (try clear hx3); (try clear c5); (try clear c6); (try clear p6); (try clear c7); (try clear c7b0); (try clear c7b1); (try clear c9); (try clear c10); (try clear c11); (try clear c12); (try clear c12b0); (try clear c12b1); (try clear c12b7); (try clear c12b8); (try clear c13); (try clear c15); (try clear c15b0); (try clear c16); (try clear c16b0); (try clear c17); (try clear p17); (try clear q17); (try clear hx17); (try clear hf17); (try clear c28); (try clear c28b0); (try clear c29); (try clear c29b0); (try clear c29b1); (try clear c30); (try clear c31); (try clear c31b0); (try clear c32); (try clear c32b0); (try clear c33); (try clear c33b0); (try clear c33b1); (try clear c33b2); (try clear p36); (try clear q36); (try clear hx36); (try clear c37); (try clear c37b0); (try clear p37); (try clear q37); (try clear hx37); (try clear c38); (try clear c38b0); (try clear hx17_0); (try clear hx364_0); (try clear hx365_0); (try clear hx370_0); (try clear p1); (try clear p17); (try clear p2); (try clear p3); (try clear p364); (try clear p365); (try clear p370); (try clear p6); (try clear q1); (try clear q17); (try clear q3); (try clear q364); (try clear q365); (try clear q370)
         obtain ⟨x20_3, rfl, HA, HK3, HO_15, HO_18, HB⟩ := hrel
         cases gk with
         | zero => exact absurd HA.out (by simp [palaverlaw04_MerkleApart.l0])
         | succ k3 =>
          have H := HA.out
          clear HA
          simp only [palaverlaw04_MerkleApart.l0] at H
          by_cases c45 : x20_3 < (t372.length : Int)
          ·rw [if_pos c45] at H
           have c45b0 : decide (x20_3 < (t372.length : Int)) = true := decide_eq_true c45
           clear c45
           by_cases c46 : 0 ≤ x20_3
           rotate_left
           ·rw [if_neg c46] at H
            exact absurd H (by simp)
           rw [if_pos c46] at H
           have c46b0 : decide (0 ≤ x20_3) = true := decide_eq_true c46
           clear c46
           by_cases c47 : x20_3 < (t377.length : Int)
           rotate_left
           ·rw [if_neg c47] at H
            exact absurd H (by simp)
           rw [if_pos c47] at H
           have c47b0 : decide (x20_3 < (t377.length : Int)) = true := decide_eq_true c47
           clear c47
           by_cases c48 : (rdOf ByteArray.empty t372 x20_3).toList = (rdOf ByteArray.empty t377 x20_3).toList
           ·rw [if_pos c48] at H
            have c48b0 : ((rdOf ByteArray.empty t372 x20_3).toList == (rdOf ByteArray.empty t377 x20_3).toList) = true := beq_iff_eq.mpr c48
            have c48b1 : ((rdOf ByteArray.empty t372 x20_3).toList != (rdOf ByteArray.empty t377 x20_3).toList) = false := bne_eq_false_iff_eq.mpr c48
            clear c48
            have H' := Aside0.mk H
            clear H
            obtain ⟨Ao49, co49, eo49⟩ := Kd.R_slice HO_15.out
            subst eo49
            try go_wp2
            have n0_ := Aside0.mk (Kd.R_drew HO_15.out)
            have n1_ := Aside0.mk (Kd.R_drew HO_18.out)
            have n2_ := Aside0.mk (below_drew1 HB.out)
            clear HO_15
            clear HO_18
            clear HB
            have HO_15 := n0_
            have HO_18 := n1_
            have HB := n2_
            clear n0_ n1_ n2_
            have p381 : 0 ≤ (x20_3 : Int) := of_decide_eq_true (by first | (with_reducible assumption) | assumption)
            have q381 : x20_3 < (t372.length : Int) := of_decide_eq_true (by first | (with_reducible assumption) | assumption)
            obtain ⟨ad381, e381, hx381_0⟩ := Kd.at_string (Kd.R_reads' HO_15.out).2.2 x20_3 p381 q381
            cases e381
            replace p381 := eq_true p381
            replace q381 := eq_true q381
            obtain ⟨Ao51, co51, eo51⟩ := Kd.R_slice HO_18.out
            (first | subst eo51 | (injection eo51 with f1_ f2_ f3_; have f4_ := f1_.symm; have f5_ := f3_.symm; clear f1_ f2_ f3_; subst f4_; subst f5_))
            have p382 : 0 ≤ (x20_3 : Int) := of_decide_eq_true (by first | (with_reducible assumption) | assumption)
            have q382 : x20_3 < (t377.length : Int) := of_decide_eq_true (by first | (with_reducible assumption) | assumption)
            obtain ⟨ad382, e382, hx382_0⟩ := Kd.at_string (Kd.R_reads' HO_18.out).2.2 x20_3 p382 q382
            cases e382
            replace p382 := eq_true p382
            replace q382 := eq_true q382
            refine start_ (n := 22) (S := fun w' => w'.cell? (ad381.add (x20_3).toNat) = some (.string (rdOf ByteArray.empty t372 x20_3)) ∧ w'.cell? (ad382.add (x20_3).toNat) = some (.string (rdOf ByteArray.empty t377 x20_3))) (ds := []) #[false, false, false, false, false, false, false, false, false, false, false, false, false, false, false, false, false, false, false, false, false, false] (by kernel_rfl) rfl rfl ⟨hx381_0, hx382_0⟩ (fun hHeld => ?_); refine with_tabW palaverlaw04_MerkleApart.tab16 palaverlaw04_MerkleApart.bits16 (fun HT_ HW_ => ?_)
            generalize wr.drew = w50 at HO_15 HO_18 HB hx381_0 hx382_0 hHeld ⊢
            refine pure_ (i := 0) (N := some 111) (v := ?_) (a' := ?_) #[true, false, false, false, false, false, false, false, false, false, false, false, false, false, false, false, false, false, false, false, false, false] rfl rfl (any_of HT_.out (by kernel_rfl)) (fun _ _ _ h => h) (Or.inl ⟨by rfl, ?_⟩) ?_ ?_
            rotate_left
            ·intro w'
             go_simp
             with_reducible rfl
            rotate_left
            ·simp only [pr_]
             rfl
            refine pure_ (i := 1) (N := some 112) (v := ?_) (a' := ?_) #[true, true, false, false, false, false, false, false, false, false, false, false, false, false, false, false, false, false, false, false, false, false] rfl rfl (any_of HT_.out (by kernel_rfl)) (fun _ _ _ h => h) (Or.inl ⟨by rfl, ?_⟩) ?_ ?_
            rotate_left
            ·intro w'
             go_simp
             with_reducible rfl
            rotate_left
            ·simp only [pr_]
             rfl
            refine pure_ (i := 2) (N := some 113) (v := ?_) (a' := ?_) #[true, true, true, false, false, false, false, false, false, false, false, false, false, false, false, false, false, false, false, false, false, false] rfl rfl (any_of HT_.out (by kernel_rfl)) (fun _ _ _ h => h) (Or.inl ⟨by rfl, ?_⟩) ?_ ?_
            rotate_left
            ·intro w'
             go_simp
             with_reducible rfl
            rotate_left
            ·simp only [pr_]
             rfl
            refine pure_ (i := 4) (N := some 115) (v := ?_) (a' := ?_) #[true, true, true, false, true, false, false, false, false, false, false, false, false, false, false, false, false, false, false, false, false, false] rfl rfl (any_of HT_.out (by kernel_rfl)) (fun _ _ _ h => h) (Or.inl ⟨by rfl, ?_⟩) ?_ ?_
            rotate_left
            ·intro w'
             go_simp
             with_reducible rfl
            rotate_left
            ·simp only [pr_]
             rfl
            refine pure_ (i := 5) (N := some 116) (v := ?_) (a' := ?_) #[true, true, true, false, true, true, false, false, false, false, false, false, false, false, false, false, false, false, false, false, false, false] rfl rfl (any_of HT_.out (by kernel_rfl)) (fun _ _ _ h => h) (Or.inl ⟨by rfl, ?_⟩) ?_ ?_
            rotate_left
            ·intro w'
             go_simp
             with_reducible rfl
            rotate_left
            ·simp only [pr_]
             rfl
            refine pure_ (i := 6) (N := some 117) (v := ?_) (a' := ?_) #[true, true, true, false, true, true, true, false, false, false, false, false, false, false, false, false, false, false, false, false, false, false] rfl rfl (any_of HT_.out (by kernel_rfl)) (fun _ _ _ h => h) (Or.inl ⟨by rfl, ?_⟩) ?_ ?_
            rotate_left
            ·intro w'
             go_simp
             with_reducible rfl
            rotate_left
            ·simp only [pr_]
             rfl
            refine take_ (i := 3) (N := some 114) (v := ?_) (a' := ?_) #[true, true, true, true, true, true, true, false, false, false, false, false, false, false, false, false, false, false, false, false, false, false] rfl rfl (take_ofW HT_.out HW_.out (by kernel_rfl)) (fun _ _ _ h => h) (Or.inl ⟨by rfl, ?_⟩) hHeld ?_ ?_
            rotate_left
            ·rintro w' ⟨s0, s1⟩
             go_simp
             with_reducible rfl
            rotate_left
            ·simp only [pr_]
             rfl
            refine take_ (i := 7) (N := some 118) (v := ?_) (a' := ?_) #[true, true, true, true, true, true, true, true, false, false, false, false, false, false, false, false, false, false, false, false, false, false] rfl rfl (take_ofW HT_.out HW_.out (by kernel_rfl)) (fun _ _ _ h => h) (Or.inl ⟨by rfl, ?_⟩) hHeld ?_ ?_
            rotate_left
            ·rintro w' ⟨s0, s1⟩
             go_simp
             with_reducible rfl
            rotate_left
            ·simp only [pr_]
             rfl
            refine pure_ (i := 8) (N := some 119) (v := ?_) (a' := ?_) #[true, true, true, true, true, true, true, true, true, false, false, false, false, false, false, false, false, false, false, false, false, false] rfl rfl (any_of HT_.out (by kernel_rfl)) (fun _ _ _ h => h) (Or.inl ⟨by rfl, ?_⟩) ?_ ?_
            rotate_left
            ·intro w'
             go_simp
             with_reducible rfl
            rotate_left
            ·simp only [pr_]
             rfl
            refine pure_ (i := 9) (N := some 120) (v := ?_) (a' := ?_) #[true, true, true, true, true, true, true, true, true, true, false, false, false, false, false, false, false, false, false, false, false, false] rfl rfl (any_of HT_.out (by kernel_rfl)) (fun _ _ _ h => h) (Or.inl ⟨by rfl, ?_⟩) ?_ ?_
            rotate_left
            ·intro w'
             go_simp
             with_reducible rfl
            rotate_left
            ·simp only [pr_]
             rfl
            refine pure_ (i := 10) (N := some 121) (v := undef) (a' := ?_) #[true, true, true, true, true, true, true, true, true, true, true, false, false, false, false, false, false, false, false, false, false, false] rfl rfl (any_of HT_.out (by kernel_rfl)) (fun _ _ _ h => h) (Or.inr ⟨by rfl, rfl⟩) ?_ ?_
            rotate_left
            ·simp only [pr_]
             rfl
            refine pure_ (i := 11) (N := some 122) (v := undef) (a' := ?_) #[true, true, true, true, true, true, true, true, true, true, true, true, false, false, false, false, false, false, false, false, false, false] rfl rfl (any_of HT_.out (by kernel_rfl)) (fun _ _ _ h => h) (Or.inr ⟨by rfl, rfl⟩) ?_ ?_
            rotate_left
            ·simp only [pr_]
             rfl
            refine pure_ (i := 12) (N := some 123) (v := undef) (a' := ?_) #[true, true, true, true, true, true, true, true, true, true, true, true, true, false, false, false, false, false, false, false, false, false] rfl rfl (any_of HT_.out (by kernel_rfl)) (fun _ _ _ h => h) (Or.inr ⟨by rfl, rfl⟩) ?_ ?_
            rotate_left
            ·simp only [pr_]
             rfl
            refine pure_ (i := 13) (N := some 124) (v := undef) (a' := ?_) #[true, true, true, true, true, true, true, true, true, true, true, true, true, true, false, false, false, false, false, false, false, false] rfl rfl (any_of HT_.out (by kernel_rfl)) (fun _ _ _ h => h) (Or.inr ⟨by rfl, rfl⟩) ?_ ?_
            rotate_left
            ·simp only [pr_]
             rfl
            refine pure_ (i := 14) (N := some 125) (v := undef) (a' := ?_) #[true, true, true, true, true, true, true, true, true, true, true, true, true, true, true, false, false, false, false, false, false, false] rfl rfl (any_of HT_.out (by kernel_rfl)) (fun _ _ _ h => h) (Or.inr ⟨by rfl, rfl⟩) ?_ ?_
            rotate_left
            ·simp only [pr_]
             rfl
            refine pure_ (i := 15) (N := some 126) (v := undef) (a' := ?_) #[true, true, true, true, true, true, true, true, true, true, true, true, true, true, true, true, false, false, false, false, false, false] rfl rfl (any_of HT_.out (by kernel_rfl)) (fun _ _ _ h => h) (Or.inr ⟨by rfl, rfl⟩) ?_ ?_
            rotate_left
            ·simp only [pr_]
             rfl
            refine pure_ (i := 16) (N := some 127) (v := undef) (a' := ?_) #[true, true, true, true, true, true, true, true, true, true, true, true, true, true, true, true, true, false, false, false, false, false] rfl rfl (any_of HT_.out (by kernel_rfl)) (fun _ _ _ h => h) (Or.inr ⟨by rfl, rfl⟩) ?_ ?_
            rotate_left
            ·simp only [pr_]
             rfl
            refine pure_ (i := 17) (N := some 128) (v := undef) (a' := ?_) #[true, true, true, true, true, true, true, true, true, true, true, true, true, true, true, true, true, true, false, false, false, false] rfl rfl (any_of HT_.out (by kernel_rfl)) (fun _ _ _ h => h) (Or.inr ⟨by rfl, rfl⟩) ?_ ?_
            rotate_left
            ·simp only [pr_]
             rfl
            refine pure_ (i := 18) (N := some 129) (v := undef) (a' := ?_) #[true, true, true, true, true, true, true, true, true, true, true, true, true, true, true, true, true, true, true, false, false, false] rfl rfl (any_of HT_.out (by kernel_rfl)) (fun _ _ _ h => h) (Or.inr ⟨by rfl, rfl⟩) ?_ ?_
            rotate_left
            ·simp only [pr_]
             rfl
            refine pure_ (i := 19) (N := some 130) (v := undef) (a' := ?_) #[true, true, true, true, true, true, true, true, true, true, true, true, true, true, true, true, true, true, true, true, false, false] rfl rfl (any_of HT_.out (by kernel_rfl)) (fun _ _ _ h => h) (Or.inr ⟨by rfl, rfl⟩) ?_ ?_
            rotate_left
            ·simp only [pr_]
             rfl
            refine pure_ (i := 20) (N := some 131) (v := undef) (a' := ?_) #[true, true, true, true, true, true, true, true, true, true, true, true, true, true, true, true, true, true, true, true, true, false] rfl rfl (any_of HT_.out (by kernel_rfl)) (fun _ _ _ h => h) (Or.inr ⟨by rfl, rfl⟩) ?_ ?_
            rotate_left
            ·simp only [pr_]
             rfl
            refine pure_ (i := 21) (N := some 132) (v := ?_) (a' := ?_) #[true, true, true, true, true, true, true, true, true, true, true, true, true, true, true, true, true, true, true, true, true, true] rfl rfl (any_of HT_.out (by kernel_rfl)) (fun _ _ _ h => h) (Or.inl ⟨by rfl, ?_⟩) ?_ ?_
            rotate_left
            ·intro w'
             go_simp
             with_reducible rfl
            rotate_left
            ·simp only [pr_]
             rfl
            refine done_ (done_of HT_.out (by kernel_rfl)) ?_
            try go_wp2
            go_roundg k3
            case measure => have := HJ3.out; have := HJ19.out; have := HK3.out; omega
            case rel => exact ⟨(wrap64 (x20_3 + 1)), (by first | rfl | (simp; done) | (simp [*]; done) | exact congrArg Value.bool (nonempty_l _) | (refine congrArg (Value.int _) ?_; first | omega | (unfold Go.RowKit.wrap64; omega))), H', ⟨by have := HJ3.out; have := HJ19.out; have := HK3.out; omega⟩, ⟨by (with_reducible repeat (first | apply Kd.R_alloc | apply Kd.R_drewN | apply Kd.R_drew)); exact HO_15.out⟩, ⟨by (with_reducible repeat (first | apply Kd.R_alloc | apply Kd.R_drewN | apply Kd.R_drew)); exact HO_18.out⟩, ⟨by repeat (first | (with_reducible first | exact HB.out | apply below_alloc | apply pw_below_drewN | apply below_drew1) | exact HB.out)⟩⟩
           ·rw [if_neg c48] at H
            have c48b0 : ((rdOf ByteArray.empty t372 x20_3).toList == (rdOf ByteArray.empty t377 x20_3).toList) = false := beq_eq_false_iff_ne.mpr c48
            have c48b1 : ((rdOf ByteArray.empty t372 x20_3).toList != (rdOf ByteArray.empty t377 x20_3).toList) = true := bne_iff_ne.mpr c48
            replace H := Option.bind_eq_some_iff.mp H
            obtain ⟨t384, A520, H⟩ := H
            replace H : ((palaverref02_Sum.f k3 (rdOf ByteArray.empty t377 x20_3)).bind fun t386 => (if t384.toList = t386.toList then ((palaverlaw04_awake.f k3).bind fun t387 => (some t387)) else (palaverlaw04_MerkleApart.l0 k3 t372 t377 (wrap64 (x20_3 + 1))))) = some r := H
            have A52 := Aside0.mk A520
            clear A520
            replace H := Option.bind_eq_some_iff.mp H
            obtain ⟨t386, A530, H⟩ := H
            replace H : (if t384.toList = t386.toList then ((palaverlaw04_awake.f k3).bind fun t387 => (some t387)) else (palaverlaw04_MerkleApart.l0 k3 t372 t377 (wrap64 (x20_3 + 1)))) = some r := H
            have A53 := Aside0.mk A530
            clear A530
            by_cases c54 : t384.toList = t386.toList
            ·rw [if_pos c54] at H
             have c54b0 : (t384.toList == t386.toList) = true := beq_iff_eq.mpr c54
             have c54b1 : (t384.toList != t386.toList) = false := bne_eq_false_iff_eq.mpr c54
             clear c54
             replace H := Option.bind_eq_some_iff.mp H
             obtain ⟨t387, A550, H⟩ := H
             replace H : (some t387) = some r := H
             have A55 := Aside0.mk A550
             clear A550
             obtain rfl := Option.some.inj H
             obtain ⟨Ao56, co56, eo56⟩ := Kd.R_slice HO_15.out
             subst eo56
             try go_wp2
             have n0_ := Aside0.mk (Kd.R_drew HO_15.out)
             have n1_ := Aside0.mk (Kd.R_drew HO_18.out)
             have n2_ := Aside0.mk (below_drew1 HB.out)
             clear HO_15
             clear HO_18
             clear HB
             have HO_15 := n0_
             have HO_18 := n1_
             have HB := n2_
             clear n0_ n1_ n2_
             have p381 : 0 ≤ (x20_3 : Int) := of_decide_eq_true (by first | (with_reducible assumption) | assumption)
             have q381 : x20_3 < (t372.length : Int) := of_decide_eq_true (by first | (with_reducible assumption) | assumption)
             obtain ⟨ad381, e381, hx381_0⟩ := Kd.at_string (Kd.R_reads' HO_15.out).2.2 x20_3 p381 q381
             cases e381
             replace p381 := eq_true p381
             replace q381 := eq_true q381
             obtain ⟨Ao58, co58, eo58⟩ := Kd.R_slice HO_18.out
             (first | subst eo58 | (injection eo58 with f1_ f2_ f3_; have f4_ := f1_.symm; have f5_ := f3_.symm; clear f1_ f2_ f3_; subst f4_; subst f5_))
             have p382 : 0 ≤ (x20_3 : Int) := of_decide_eq_true (by first | (with_reducible assumption) | assumption)
             have q382 : x20_3 < (t377.length : Int) := of_decide_eq_true (by first | (with_reducible assumption) | assumption)
             obtain ⟨ad382, e382, hx382_0⟩ := Kd.at_string (Kd.R_reads' HO_18.out).2.2 x20_3 p382 q382
             cases e382
             replace p382 := eq_true p382
             replace q382 := eq_true q382
             have p383 : 0 ≤ (x20_3 : Int) := of_decide_eq_true (by first | (with_reducible assumption) | assumption)
             have q383 : x20_3 < (t372.length : Int) := of_decide_eq_true (by first | (with_reducible assumption) | assumption)
             obtain ⟨ad383, e383, hx383_0⟩ := Kd.at_string (Kd.R_reads' HO_15.out).2.2 x20_3 p383 q383
             obtain rfl : ad381 = ad383 := (by injection e383)
             replace p383 := eq_true p383
             replace q383 := eq_true q383
             have p385 : 0 ≤ (x20_3 : Int) := of_decide_eq_true (by first | (with_reducible assumption) | assumption)
             have q385 : x20_3 < (t377.length : Int) := of_decide_eq_true (by first | (with_reducible assumption) | assumption)
             obtain ⟨ad385, e385, hx385_0⟩ := Kd.at_string (Kd.R_reads' HO_18.out).2.2 x20_3 p385 q385
             obtain rfl : ad382 = ad385 := (by injection e385)
             replace p385 := eq_true p385
             replace q385 := eq_true q385
             refine start_ (n := 22) (S := fun w' => w'.cell? (ad381.add (x20_3).toNat) = some (.string (rdOf ByteArray.empty t372 x20_3)) ∧ w'.cell? (ad382.add (x20_3).toNat) = some (.string (rdOf ByteArray.empty t377 x20_3)) ∧ w'.cell? (ad381.add (x20_3).toNat) = some (.string (rdOf ByteArray.empty t372 x20_3)) ∧ w'.cell? (ad382.add (x20_3).toNat) = some (.string (rdOf ByteArray.empty t377 x20_3))) (ds := []) #[false, false, false, false, false, false, false, false, false, false, false, false, false, false, false, false, false, false, false, false, false, false] (by kernel_rfl) rfl rfl ⟨hx381_0, hx382_0, hx383_0, hx385_0⟩ (fun hHeld => ?_); refine with_tabW palaverlaw04_MerkleApart.tab16 palaverlaw04_MerkleApart.bits16 (fun HT_ HW_ => ?_)
             generalize wr.drew = w57 at HO_15 HO_18 HB hx381_0 hx382_0 hx383_0 hx385_0 hHeld ⊢
             refine pure_ (i := 0) (N := some 111) (v := ?_) (a' := ?_) #[true, false, false, false, false, false, false, false, false, false, false, false, false, false, false, false, false, false, false, false, false, false] rfl rfl (any_of HT_.out (by kernel_rfl)) (fun _ _ _ h => h) (Or.inl ⟨by rfl, ?_⟩) ?_ ?_
             rotate_left
             ·intro w'
              go_simp
              with_reducible rfl
             rotate_left
             ·simp only [pr_]
              rfl
             refine pure_ (i := 1) (N := some 112) (v := ?_) (a' := ?_) #[true, true, false, false, false, false, false, false, false, false, false, false, false, false, false, false, false, false, false, false, false, false] rfl rfl (any_of HT_.out (by kernel_rfl)) (fun _ _ _ h => h) (Or.inl ⟨by rfl, ?_⟩) ?_ ?_
             rotate_left
             ·intro w'
              go_simp
              with_reducible rfl
             rotate_left
             ·simp only [pr_]
              rfl
             refine pure_ (i := 2) (N := some 113) (v := ?_) (a' := ?_) #[true, true, true, false, false, false, false, false, false, false, false, false, false, false, false, false, false, false, false, false, false, false] rfl rfl (any_of HT_.out (by kernel_rfl)) (fun _ _ _ h => h) (Or.inl ⟨by rfl, ?_⟩) ?_ ?_
             rotate_left
             ·intro w'
              go_simp
              with_reducible rfl
             rotate_left
             ·simp only [pr_]
              rfl
             refine pure_ (i := 4) (N := some 115) (v := ?_) (a' := ?_) #[true, true, true, false, true, false, false, false, false, false, false, false, false, false, false, false, false, false, false, false, false, false] rfl rfl (any_of HT_.out (by kernel_rfl)) (fun _ _ _ h => h) (Or.inl ⟨by rfl, ?_⟩) ?_ ?_
             rotate_left
             ·intro w'
              go_simp
              with_reducible rfl
             rotate_left
             ·simp only [pr_]
              rfl
             refine pure_ (i := 5) (N := some 116) (v := ?_) (a' := ?_) #[true, true, true, false, true, true, false, false, false, false, false, false, false, false, false, false, false, false, false, false, false, false] rfl rfl (any_of HT_.out (by kernel_rfl)) (fun _ _ _ h => h) (Or.inl ⟨by rfl, ?_⟩) ?_ ?_
             rotate_left
             ·intro w'
              go_simp
              with_reducible rfl
             rotate_left
             ·simp only [pr_]
              rfl
             refine pure_ (i := 6) (N := some 117) (v := ?_) (a' := ?_) #[true, true, true, false, true, true, true, false, false, false, false, false, false, false, false, false, false, false, false, false, false, false] rfl rfl (any_of HT_.out (by kernel_rfl)) (fun _ _ _ h => h) (Or.inl ⟨by rfl, ?_⟩) ?_ ?_
             rotate_left
             ·intro w'
              go_simp
              with_reducible rfl
             rotate_left
             ·simp only [pr_]
              rfl
             refine take_ (i := 3) (N := some 114) (v := ?_) (a' := ?_) #[true, true, true, true, true, true, true, false, false, false, false, false, false, false, false, false, false, false, false, false, false, false] rfl rfl (take_ofW HT_.out HW_.out (by kernel_rfl)) (fun _ _ _ h => h) (Or.inl ⟨by rfl, ?_⟩) hHeld ?_ ?_
             rotate_left
             ·rintro w' ⟨s0, s1, s2, s3⟩
              go_simp
              with_reducible rfl
             rotate_left
             ·simp only [pr_]
              rfl
             refine take_ (i := 7) (N := some 118) (v := ?_) (a' := ?_) #[true, true, true, true, true, true, true, true, false, false, false, false, false, false, false, false, false, false, false, false, false, false] rfl rfl (take_ofW HT_.out HW_.out (by kernel_rfl)) (fun _ _ _ h => h) (Or.inl ⟨by rfl, ?_⟩) hHeld ?_ ?_
             rotate_left
             ·rintro w' ⟨s0, s1, s2, s3⟩
              go_simp
              with_reducible rfl
             rotate_left
             ·simp only [pr_]
              rfl
             refine pure_ (i := 8) (N := some 119) (v := ?_) (a' := ?_) #[true, true, true, true, true, true, true, true, true, false, false, false, false, false, false, false, false, false, false, false, false, false] rfl rfl (any_of HT_.out (by kernel_rfl)) (fun _ _ _ h => h) (Or.inl ⟨by rfl, ?_⟩) ?_ ?_
             rotate_left
             ·intro w'
              go_simp
              with_reducible rfl
             rotate_left
             ·simp only [pr_]
              rfl
             refine pure_ (i := 9) (N := some 120) (v := ?_) (a' := ?_) #[true, true, true, true, true, true, true, true, true, true, false, false, false, false, false, false, false, false, false, false, false, false] rfl rfl (any_of HT_.out (by kernel_rfl)) (fun _ _ _ h => h) (Or.inl ⟨by rfl, ?_⟩) ?_ ?_
             rotate_left
             ·intro w'
              go_simp
              with_reducible rfl
             rotate_left
             ·simp only [pr_]
              rfl
             refine pure_ (i := 10) (N := some 121) (v := ?_) (a' := ?_) #[true, true, true, true, true, true, true, true, true, true, true, false, false, false, false, false, false, false, false, false, false, false] rfl rfl (any_of HT_.out (by kernel_rfl)) (fun _ _ _ h => h) (Or.inl ⟨by rfl, ?_⟩) ?_ ?_
             rotate_left
             ·intro w'
              go_simp
              with_reducible rfl
             rotate_left
             ·simp only [pr_]
              rfl
             refine pure_ (i := 11) (N := some 122) (v := ?_) (a' := ?_) #[true, true, true, true, true, true, true, true, true, true, true, true, false, false, false, false, false, false, false, false, false, false] rfl rfl (any_of HT_.out (by kernel_rfl)) (fun _ _ _ h => h) (Or.inl ⟨by rfl, ?_⟩) ?_ ?_
             rotate_left
             ·intro w'
              go_simp
              with_reducible rfl
             rotate_left
             ·simp only [pr_]
              rfl
             refine pure_ (i := 12) (N := some 123) (v := ?_) (a' := ?_) #[true, true, true, true, true, true, true, true, true, true, true, true, true, false, false, false, false, false, false, false, false, false] rfl rfl (any_of HT_.out (by kernel_rfl)) (fun _ _ _ h => h) (Or.inl ⟨by rfl, ?_⟩) ?_ ?_
             rotate_left
             ·intro w'
              go_simp
              with_reducible rfl
             rotate_left
             ·simp only [pr_]
              rfl
             refine pure_ (i := 15) (N := some 126) (v := ?_) (a' := ?_) #[true, true, true, true, true, true, true, true, true, true, true, true, true, false, false, true, false, false, false, false, false, false] rfl rfl (any_of HT_.out (by kernel_rfl)) (fun _ _ _ h => h) (Or.inl ⟨by rfl, ?_⟩) ?_ ?_
             rotate_left
             ·intro w'
              go_simp
              with_reducible rfl
             rotate_left
             ·simp only [pr_]
              rfl
             refine pure_ (i := 16) (N := some 127) (v := ?_) (a' := ?_) #[true, true, true, true, true, true, true, true, true, true, true, true, true, false, false, true, true, false, false, false, false, false] rfl rfl (any_of HT_.out (by kernel_rfl)) (fun _ _ _ h => h) (Or.inl ⟨by rfl, ?_⟩) ?_ ?_
             rotate_left
             ·intro w'
              go_simp
              with_reducible rfl
             rotate_left
             ·simp only [pr_]
              rfl
             refine pure_ (i := 17) (N := some 128) (v := ?_) (a' := ?_) #[true, true, true, true, true, true, true, true, true, true, true, true, true, false, false, true, true, true, false, false, false, false] rfl rfl (any_of HT_.out (by kernel_rfl)) (fun _ _ _ h => h) (Or.inl ⟨by rfl, ?_⟩) ?_ ?_
             rotate_left
             ·intro w'
              go_simp
              with_reducible rfl
             rotate_left
             ·simp only [pr_]
              rfl
             refine take_ (i := 13) (N := some 124) (v := ?_) (a' := ?_) #[true, true, true, true, true, true, true, true, true, true, true, true, true, true, false, true, true, true, false, false, false, false] rfl rfl (take_ofW HT_.out HW_.out (by kernel_rfl)) (fun _ _ _ h => h) (Or.inl ⟨by rfl, ?_⟩) hHeld ?_ ?_
             rotate_left
             ·rintro w' ⟨s0, s1, s2, s3⟩
              go_simp
              with_reducible rfl
             rotate_left
             ·simp only [pr_]
              rfl
             refine take_ (i := 18) (N := some 129) (v := ?_) (a' := ?_) #[true, true, true, true, true, true, true, true, true, true, true, true, true, true, false, true, true, true, true, false, false, false] rfl rfl (take_ofW HT_.out HW_.out (by kernel_rfl)) (fun _ _ _ h => h) (Or.inl ⟨by rfl, ?_⟩) hHeld ?_ ?_
             rotate_left
             ·rintro w' ⟨s0, s1, s2, s3⟩
              go_simp
              with_reducible rfl
             rotate_left
             ·simp only [pr_]
              rfl
             refine one_ (i := 14) (N := some 125) #[true, true, true, true, true, true, true, true, true, true, true, true, true, true, true, true, true, true, true, false, false, false] rfl rfl (one_of HT_.out (by kernel_rfl)) (by decide) (fun K hK => ?_)
             refine goes_ Tryd.func18 (by kernel_rfl) rfl #[.string (rdOf ByteArray.empty t372 x20_3)] (by rfl) rfl rfl (by (try simp only [List.map_toArray, List.map_cons, List.map_nil]); first | done | rfl | (simp only [List.length_drop, List.length_take]; rfl)) ?_
             with_reducible refine (palaverref02_Sum.calls k3 (rdOf ByteArray.empty t372 x20_3) t384 _ A52.out).mono ?_
             rintro e w59 ⟨rfl, hb⟩
             have HS0_ := (hb.cell (World.block_lt_of_cell? _ _ (hHeld.1))).trans (hHeld.1)
             have HS1_ := (hb.cell (World.block_lt_of_cell? _ _ (hHeld.2.1))).trans (hHeld.2.1)
             have HS2_ := (hb.cell (World.block_lt_of_cell? _ _ (hHeld.2.2.1))).trans (hHeld.2.2.1)
             have HS3_ := (hb.cell (World.block_lt_of_cell? _ _ (hHeld.2.2.2))).trans (hHeld.2.2.2)
             refine ⟨_, rfl, ?_⟩
             have n0_ := Aside0.mk (Kd.R_below (by (with_reducible repeat (first | apply Kd.R_alloc | apply Kd.R_drewN | apply Kd.R_drew)); exact HO_15.out) hb)
             have n1_ := Aside0.mk (Kd.R_below (by (with_reducible repeat (first | apply Kd.R_alloc | apply Kd.R_drewN | apply Kd.R_drew)); exact HO_18.out) hb)
             have n2_ := Aside0.mk (below_step (by repeat (first | (with_reducible first | exact HB.out | apply below_alloc | apply pw_below_drewN | apply below_drew1) | exact HB.out)) hb)
             clear HO_15
             clear HO_18
             clear HB
             have HO_15 := n0_
             have HO_18 := n1_
             have HB := n2_
             clear n0_ n1_ n2_
             (try clear hb)
             (try clear hb2)
             (try clear hk)
             (try clear hi)
             refine hK.out _ _ ⟨HS0_, HS1_, HS2_, HS3_⟩ (fun hHeld => ?_)
             clear hK K
             refine norm_ (a' := ?_) ?_ ?_
             rotate_left
             ·show Act.put _ (some 125) _ = _
              simp only [pr_]
              rfl
             refine one_ (i := 19) (N := some 130) #[true, true, true, true, true, true, true, true, true, true, true, true, true, true, true, true, true, true, true, true, false, false] rfl rfl (one_of HT_.out (by kernel_rfl)) (by decide) (fun K hK => ?_)
             refine goes_ Tryd.func18 (by kernel_rfl) rfl #[.string (rdOf ByteArray.empty t377 x20_3)] (by rfl) rfl rfl (by (try simp only [List.map_toArray, List.map_cons, List.map_nil]); first | done | rfl | (simp only [List.length_drop, List.length_take]; rfl)) ?_
             with_reducible refine (palaverref02_Sum.calls k3 (rdOf ByteArray.empty t377 x20_3) t386 _ A53.out).mono ?_
             rintro e w60 ⟨rfl, hb⟩
             have HS0_ := (hb.cell (World.block_lt_of_cell? _ _ (hHeld.1))).trans (hHeld.1)
             have HS1_ := (hb.cell (World.block_lt_of_cell? _ _ (hHeld.2.1))).trans (hHeld.2.1)
             have HS2_ := (hb.cell (World.block_lt_of_cell? _ _ (hHeld.2.2.1))).trans (hHeld.2.2.1)
             have HS3_ := (hb.cell (World.block_lt_of_cell? _ _ (hHeld.2.2.2))).trans (hHeld.2.2.2)
             refine ⟨_, rfl, ?_⟩
             have n0_ := Aside0.mk (Kd.R_below (by (with_reducible repeat (first | apply Kd.R_alloc | apply Kd.R_drewN | apply Kd.R_drew)); exact HO_15.out) hb)
             have n1_ := Aside0.mk (Kd.R_below (by (with_reducible repeat (first | apply Kd.R_alloc | apply Kd.R_drewN | apply Kd.R_drew)); exact HO_18.out) hb)
             have n2_ := Aside0.mk (below_step (by repeat (first | (with_reducible first | exact HB.out | apply below_alloc | apply pw_below_drewN | apply below_drew1) | exact HB.out)) hb)
             clear HO_15
             clear HO_18
             clear HB
             have HO_15 := n0_
             have HO_18 := n1_
             have HB := n2_
             clear n0_ n1_ n2_
             (try clear hb)
             (try clear hb2)
             (try clear hk)
             (try clear hi)
             refine hK.out _ _ ⟨HS0_, HS1_, HS2_, HS3_⟩ (fun hHeld => ?_)
             clear hK K
             refine norm_ (a' := ?_) ?_ ?_
             rotate_left
             ·show Act.put _ (some 130) _ = _
              simp only [pr_]
              rfl
             refine pure_ (i := 20) (N := some 131) (v := ?_) (a' := ?_) #[true, true, true, true, true, true, true, true, true, true, true, true, true, true, true, true, true, true, true, true, true, false] rfl rfl (any_of HT_.out (by kernel_rfl)) (fun _ _ _ h => h) (Or.inl ⟨by rfl, ?_⟩) ?_ ?_
             rotate_left
             ·intro w'
              go_simp
              with_reducible rfl
             rotate_left
             ·simp only [pr_]
              rfl
             refine pure_ (i := 21) (N := some 132) (v := ?_) (a' := ?_) #[true, true, true, true, true, true, true, true, true, true, true, true, true, true, true, true, true, true, true, true, true, true] rfl rfl (any_of HT_.out (by kernel_rfl)) (fun _ _ _ h => h) (Or.inl ⟨by rfl, ?_⟩) ?_ ?_
             rotate_left
             ·intro w'
              go_simp
              with_reducible rfl
             rotate_left
             ·simp only [pr_]
              rfl
             refine done_ (done_of HT_.out (by kernel_rfl)) ?_
             try go_wp2_with (first | ((with_reducible refine gate_callee (f := 10) rfl ?_); refine goesL_ (some 133) rfl rfl Tryd.func10 (by kernel_rfl) rfl #[] rfl (by (try simp only [List.map_toArray, List.map_cons, List.map_nil]); first | done | rfl | (simp only [List.length_drop, List.length_take]; rfl)) ?_; (with_reducible refine (palaverlaw04_awake.calls k3  t387 _ ?side1 A55.out).mono ?_); (case side1 => repeat (first | exact (Kd.C_below HRG.out HB.out) | (with_reducible refine Kd.C_alloc ?_ _) | (with_reducible refine Kd.C_drewN ?_ _) | (with_reducible refine Kd.C_drew ?_))); rintro e w61 ⟨rfl, hb⟩; refine ⟨_, rfl, ?_⟩; have n0_ := Aside0.mk (Kd.R_below (by (with_reducible repeat (first | apply Kd.R_alloc | apply Kd.R_drewN | apply Kd.R_drew)); exact HO_15.out) hb); have n1_ := Aside0.mk (Kd.R_below (by (with_reducible repeat (first | apply Kd.R_alloc | apply Kd.R_drewN | apply Kd.R_drew)); exact HO_18.out) hb); have n2_ := Aside0.mk (below_step (by repeat (first | (with_reducible first | exact HB.out | apply below_alloc | apply pw_below_drewN | apply below_drew1) | exact HB.out)) hb); clear HO_15; clear HO_18; clear HB; have HO_15 := n0_; have HO_18 := n1_; have HB := n2_; clear n0_ n1_ n2_; (try clear hb); (try clear hb2); (try clear hk); (try clear hi)))
             go_ret
             exact ⟨by first | rfl | (simp [errW_none, errW_some] <;> rfl) | (simp only [← hji14]; first | rfl | (simp [errW_none, errW_some] <;> rfl)) | (simp [*, errW_none, errW_some] <;> rfl), by repeat (first | (with_reducible first | exact HB.out | apply below_alloc | apply pw_below_drewN | apply below_drew1) | exact HB.out)⟩
            ·rw [if_neg c54] at H
             have c54b0 : (t384.toList == t386.toList) = false := beq_eq_false_iff_ne.mpr c54
             have c54b1 : (t384.toList != t386.toList) = true := bne_iff_ne.mpr c54
             have H' := Aside0.mk H
             clear H
             obtain ⟨Ao62, co62, eo62⟩ := Kd.R_slice HO_15.out
             subst eo62
             try go_wp2
             have n0_ := Aside0.mk (Kd.R_drew HO_15.out)
             have n1_ := Aside0.mk (Kd.R_drew HO_18.out)
             have n2_ := Aside0.mk (below_drew1 HB.out)
             clear HO_15
             clear HO_18
             clear HB
             have HO_15 := n0_
             have HO_18 := n1_
             have HB := n2_
             clear n0_ n1_ n2_
             have p381 : 0 ≤ (x20_3 : Int) := of_decide_eq_true (by first | (with_reducible assumption) | assumption)
             have q381 : x20_3 < (t372.length : Int) := of_decide_eq_true (by first | (with_reducible assumption) | assumption)
             obtain ⟨ad381, e381, hx381_0⟩ := Kd.at_string (Kd.R_reads' HO_15.out).2.2 x20_3 p381 q381
             cases e381
             replace p381 := eq_true p381
             replace q381 := eq_true q381
             obtain ⟨Ao64, co64, eo64⟩ := Kd.R_slice HO_18.out
             (first | subst eo64 | (injection eo64 with f1_ f2_ f3_; have f4_ := f1_.symm; have f5_ := f3_.symm; clear f1_ f2_ f3_; subst f4_; subst f5_))
             have p382 : 0 ≤ (x20_3 : Int) := of_decide_eq_true (by first | (with_reducible assumption) | assumption)
             have q382 : x20_3 < (t377.length : Int) := of_decide_eq_true (by first | (with_reducible assumption) | assumption)
             obtain ⟨ad382, e382, hx382_0⟩ := Kd.at_string (Kd.R_reads' HO_18.out).2.2 x20_3 p382 q382
             cases e382
             replace p382 := eq_true p382
             replace q382 := eq_true q382
             have p383 : 0 ≤ (x20_3 : Int) := of_decide_eq_true (by first | (with_reducible assumption) | assumption)
             have q383 : x20_3 < (t372.length : Int) := of_decide_eq_true (by first | (with_reducible assumption) | assumption)
             obtain ⟨ad383, e383, hx383_0⟩ := Kd.at_string (Kd.R_reads' HO_15.out).2.2 x20_3 p383 q383
             obtain rfl : ad381 = ad383 := (by injection e383)
             replace p383 := eq_true p383
             replace q383 := eq_true q383
             have p385 : 0 ≤ (x20_3 : Int) := of_decide_eq_true (by first | (with_reducible assumption) | assumption)
             have q385 : x20_3 < (t377.length : Int) := of_decide_eq_true (by first | (with_reducible assumption) | assumption)
             obtain ⟨ad385, e385, hx385_0⟩ := Kd.at_string (Kd.R_reads' HO_18.out).2.2 x20_3 p385 q385
             obtain rfl : ad382 = ad385 := (by injection e385)
             replace p385 := eq_true p385
             replace q385 := eq_true q385
             refine start_ (n := 22) (S := fun w' => w'.cell? (ad381.add (x20_3).toNat) = some (.string (rdOf ByteArray.empty t372 x20_3)) ∧ w'.cell? (ad382.add (x20_3).toNat) = some (.string (rdOf ByteArray.empty t377 x20_3)) ∧ w'.cell? (ad381.add (x20_3).toNat) = some (.string (rdOf ByteArray.empty t372 x20_3)) ∧ w'.cell? (ad382.add (x20_3).toNat) = some (.string (rdOf ByteArray.empty t377 x20_3))) (ds := []) #[false, false, false, false, false, false, false, false, false, false, false, false, false, false, false, false, false, false, false, false, false, false] (by kernel_rfl) rfl rfl ⟨hx381_0, hx382_0, hx383_0, hx385_0⟩ (fun hHeld => ?_); refine with_tabW palaverlaw04_MerkleApart.tab16 palaverlaw04_MerkleApart.bits16 (fun HT_ HW_ => ?_)
             generalize wr.drew = w63 at HO_15 HO_18 HB hx381_0 hx382_0 hx383_0 hx385_0 hHeld ⊢
             refine pure_ (i := 0) (N := some 111) (v := ?_) (a' := ?_) #[true, false, false, false, false, false, false, false, false, false, false, false, false, false, false, false, false, false, false, false, false, false] rfl rfl (any_of HT_.out (by kernel_rfl)) (fun _ _ _ h => h) (Or.inl ⟨by rfl, ?_⟩) ?_ ?_
             rotate_left
             ·intro w'
              go_simp
              with_reducible rfl
             rotate_left
             ·simp only [pr_]
              rfl
             refine pure_ (i := 1) (N := some 112) (v := ?_) (a' := ?_) #[true, true, false, false, false, false, false, false, false, false, false, false, false, false, false, false, false, false, false, false, false, false] rfl rfl (any_of HT_.out (by kernel_rfl)) (fun _ _ _ h => h) (Or.inl ⟨by rfl, ?_⟩) ?_ ?_
             rotate_left
             ·intro w'
              go_simp
              with_reducible rfl
             rotate_left
             ·simp only [pr_]
              rfl
             refine pure_ (i := 2) (N := some 113) (v := ?_) (a' := ?_) #[true, true, true, false, false, false, false, false, false, false, false, false, false, false, false, false, false, false, false, false, false, false] rfl rfl (any_of HT_.out (by kernel_rfl)) (fun _ _ _ h => h) (Or.inl ⟨by rfl, ?_⟩) ?_ ?_
             rotate_left
             ·intro w'
              go_simp
              with_reducible rfl
             rotate_left
             ·simp only [pr_]
              rfl
             refine pure_ (i := 4) (N := some 115) (v := ?_) (a' := ?_) #[true, true, true, false, true, false, false, false, false, false, false, false, false, false, false, false, false, false, false, false, false, false] rfl rfl (any_of HT_.out (by kernel_rfl)) (fun _ _ _ h => h) (Or.inl ⟨by rfl, ?_⟩) ?_ ?_
             rotate_left
             ·intro w'
              go_simp
              with_reducible rfl
             rotate_left
             ·simp only [pr_]
              rfl
             refine pure_ (i := 5) (N := some 116) (v := ?_) (a' := ?_) #[true, true, true, false, true, true, false, false, false, false, false, false, false, false, false, false, false, false, false, false, false, false] rfl rfl (any_of HT_.out (by kernel_rfl)) (fun _ _ _ h => h) (Or.inl ⟨by rfl, ?_⟩) ?_ ?_
             rotate_left
             ·intro w'
              go_simp
              with_reducible rfl
             rotate_left
             ·simp only [pr_]
              rfl
             refine pure_ (i := 6) (N := some 117) (v := ?_) (a' := ?_) #[true, true, true, false, true, true, true, false, false, false, false, false, false, false, false, false, false, false, false, false, false, false] rfl rfl (any_of HT_.out (by kernel_rfl)) (fun _ _ _ h => h) (Or.inl ⟨by rfl, ?_⟩) ?_ ?_
             rotate_left
             ·intro w'
              go_simp
              with_reducible rfl
             rotate_left
             ·simp only [pr_]
              rfl
             refine take_ (i := 3) (N := some 114) (v := ?_) (a' := ?_) #[true, true, true, true, true, true, true, false, false, false, false, false, false, false, false, false, false, false, false, false, false, false] rfl rfl (take_ofW HT_.out HW_.out (by kernel_rfl)) (fun _ _ _ h => h) (Or.inl ⟨by rfl, ?_⟩) hHeld ?_ ?_
             rotate_left
             ·rintro w' ⟨s0, s1, s2, s3⟩
              go_simp
              with_reducible rfl
             rotate_left
             ·simp only [pr_]
              rfl
             refine take_ (i := 7) (N := some 118) (v := ?_) (a' := ?_) #[true, true, true, true, true, true, true, true, false, false, false, false, false, false, false, false, false, false, false, false, false, false] rfl rfl (take_ofW HT_.out HW_.out (by kernel_rfl)) (fun _ _ _ h => h) (Or.inl ⟨by rfl, ?_⟩) hHeld ?_ ?_
             rotate_left
             ·rintro w' ⟨s0, s1, s2, s3⟩
              go_simp
              with_reducible rfl
             rotate_left
             ·simp only [pr_]
              rfl
             refine pure_ (i := 8) (N := some 119) (v := ?_) (a' := ?_) #[true, true, true, true, true, true, true, true, true, false, false, false, false, false, false, false, false, false, false, false, false, false] rfl rfl (any_of HT_.out (by kernel_rfl)) (fun _ _ _ h => h) (Or.inl ⟨by rfl, ?_⟩) ?_ ?_
             rotate_left
             ·intro w'
              go_simp
              with_reducible rfl
             rotate_left
             ·simp only [pr_]
              rfl
             refine pure_ (i := 9) (N := some 120) (v := ?_) (a' := ?_) #[true, true, true, true, true, true, true, true, true, true, false, false, false, false, false, false, false, false, false, false, false, false] rfl rfl (any_of HT_.out (by kernel_rfl)) (fun _ _ _ h => h) (Or.inl ⟨by rfl, ?_⟩) ?_ ?_
             rotate_left
             ·intro w'
              go_simp
              with_reducible rfl
             rotate_left
             ·simp only [pr_]
              rfl
             refine pure_ (i := 10) (N := some 121) (v := ?_) (a' := ?_) #[true, true, true, true, true, true, true, true, true, true, true, false, false, false, false, false, false, false, false, false, false, false] rfl rfl (any_of HT_.out (by kernel_rfl)) (fun _ _ _ h => h) (Or.inl ⟨by rfl, ?_⟩) ?_ ?_
             rotate_left
             ·intro w'
              go_simp
              with_reducible rfl
             rotate_left
             ·simp only [pr_]
              rfl
             refine pure_ (i := 11) (N := some 122) (v := ?_) (a' := ?_) #[true, true, true, true, true, true, true, true, true, true, true, true, false, false, false, false, false, false, false, false, false, false] rfl rfl (any_of HT_.out (by kernel_rfl)) (fun _ _ _ h => h) (Or.inl ⟨by rfl, ?_⟩) ?_ ?_
             rotate_left
             ·intro w'
              go_simp
              with_reducible rfl
             rotate_left
             ·simp only [pr_]
              rfl
             refine pure_ (i := 12) (N := some 123) (v := ?_) (a' := ?_) #[true, true, true, true, true, true, true, true, true, true, true, true, true, false, false, false, false, false, false, false, false, false] rfl rfl (any_of HT_.out (by kernel_rfl)) (fun _ _ _ h => h) (Or.inl ⟨by rfl, ?_⟩) ?_ ?_
             rotate_left
             ·intro w'
              go_simp
              with_reducible rfl
             rotate_left
             ·simp only [pr_]
              rfl
             refine pure_ (i := 15) (N := some 126) (v := ?_) (a' := ?_) #[true, true, true, true, true, true, true, true, true, true, true, true, true, false, false, true, false, false, false, false, false, false] rfl rfl (any_of HT_.out (by kernel_rfl)) (fun _ _ _ h => h) (Or.inl ⟨by rfl, ?_⟩) ?_ ?_
             rotate_left
             ·intro w'
              go_simp
              with_reducible rfl
             rotate_left
             ·simp only [pr_]
              rfl
             refine pure_ (i := 16) (N := some 127) (v := ?_) (a' := ?_) #[true, true, true, true, true, true, true, true, true, true, true, true, true, false, false, true, true, false, false, false, false, false] rfl rfl (any_of HT_.out (by kernel_rfl)) (fun _ _ _ h => h) (Or.inl ⟨by rfl, ?_⟩) ?_ ?_
             rotate_left
             ·intro w'
              go_simp
              with_reducible rfl
             rotate_left
             ·simp only [pr_]
              rfl
             refine pure_ (i := 17) (N := some 128) (v := ?_) (a' := ?_) #[true, true, true, true, true, true, true, true, true, true, true, true, true, false, false, true, true, true, false, false, false, false] rfl rfl (any_of HT_.out (by kernel_rfl)) (fun _ _ _ h => h) (Or.inl ⟨by rfl, ?_⟩) ?_ ?_
             rotate_left
             ·intro w'
              go_simp
              with_reducible rfl
             rotate_left
             ·simp only [pr_]
              rfl
             refine take_ (i := 13) (N := some 124) (v := ?_) (a' := ?_) #[true, true, true, true, true, true, true, true, true, true, true, true, true, true, false, true, true, true, false, false, false, false] rfl rfl (take_ofW HT_.out HW_.out (by kernel_rfl)) (fun _ _ _ h => h) (Or.inl ⟨by rfl, ?_⟩) hHeld ?_ ?_
             rotate_left
             ·rintro w' ⟨s0, s1, s2, s3⟩
              go_simp
              with_reducible rfl
             rotate_left
             ·simp only [pr_]
              rfl
             refine take_ (i := 18) (N := some 129) (v := ?_) (a' := ?_) #[true, true, true, true, true, true, true, true, true, true, true, true, true, true, false, true, true, true, true, false, false, false] rfl rfl (take_ofW HT_.out HW_.out (by kernel_rfl)) (fun _ _ _ h => h) (Or.inl ⟨by rfl, ?_⟩) hHeld ?_ ?_
             rotate_left
             ·rintro w' ⟨s0, s1, s2, s3⟩
              go_simp
              with_reducible rfl
             rotate_left
             ·simp only [pr_]
              rfl
             refine one_ (i := 14) (N := some 125) #[true, true, true, true, true, true, true, true, true, true, true, true, true, true, true, true, true, true, true, false, false, false] rfl rfl (one_of HT_.out (by kernel_rfl)) (by decide) (fun K hK => ?_)
             refine goes_ Tryd.func18 (by kernel_rfl) rfl #[.string (rdOf ByteArray.empty t372 x20_3)] (by rfl) rfl rfl (by (try simp only [List.map_toArray, List.map_cons, List.map_nil]); first | done | rfl | (simp only [List.length_drop, List.length_take]; rfl)) ?_
             with_reducible refine (palaverref02_Sum.calls k3 (rdOf ByteArray.empty t372 x20_3) t384 _ A52.out).mono ?_
             rintro e w65 ⟨rfl, hb⟩
             have HS0_ := (hb.cell (World.block_lt_of_cell? _ _ (hHeld.1))).trans (hHeld.1)
             have HS1_ := (hb.cell (World.block_lt_of_cell? _ _ (hHeld.2.1))).trans (hHeld.2.1)
             have HS2_ := (hb.cell (World.block_lt_of_cell? _ _ (hHeld.2.2.1))).trans (hHeld.2.2.1)
             have HS3_ := (hb.cell (World.block_lt_of_cell? _ _ (hHeld.2.2.2))).trans (hHeld.2.2.2)
             refine ⟨_, rfl, ?_⟩
             have n0_ := Aside0.mk (Kd.R_below (by (with_reducible repeat (first | apply Kd.R_alloc | apply Kd.R_drewN | apply Kd.R_drew)); exact HO_15.out) hb)
             have n1_ := Aside0.mk (Kd.R_below (by (with_reducible repeat (first | apply Kd.R_alloc | apply Kd.R_drewN | apply Kd.R_drew)); exact HO_18.out) hb)
             have n2_ := Aside0.mk (below_step (by repeat (first | (with_reducible first | exact HB.out | apply below_alloc | apply pw_below_drewN | apply below_drew1) | exact HB.out)) hb)
             clear HO_15
             clear HO_18
             clear HB
             have HO_15 := n0_
             have HO_18 := n1_
             have HB := n2_
             clear n0_ n1_ n2_
             (try clear hb)
             (try clear hb2)
             (try clear hk)
             (try clear hi)
             refine hK.out _ _ ⟨HS0_, HS1_, HS2_, HS3_⟩ (fun hHeld => ?_)
             clear hK K
             refine norm_ (a' := ?_) ?_ ?_
             rotate_left
             ·show Act.put _ (some 125) _ = _
              simp only [pr_]
              rfl
             refine one_ (i := 19) (N := some 130) #[true, true, true, true, true, true, true, true, true, true, true, true, true, true, true, true, true, true, true, true, false, false] rfl rfl (one_of HT_.out (by kernel_rfl)) (by decide) (fun K hK => ?_)
             refine goes_ Tryd.func18 (by kernel_rfl) rfl #[.string (rdOf ByteArray.empty t377 x20_3)] (by rfl) rfl rfl (by (try simp only [List.map_toArray, List.map_cons, List.map_nil]); first | done | rfl | (simp only [List.length_drop, List.length_take]; rfl)) ?_
             with_reducible refine (palaverref02_Sum.calls k3 (rdOf ByteArray.empty t377 x20_3) t386 _ A53.out).mono ?_
             rintro e w66 ⟨rfl, hb⟩
             have HS0_ := (hb.cell (World.block_lt_of_cell? _ _ (hHeld.1))).trans (hHeld.1)
             have HS1_ := (hb.cell (World.block_lt_of_cell? _ _ (hHeld.2.1))).trans (hHeld.2.1)
             have HS2_ := (hb.cell (World.block_lt_of_cell? _ _ (hHeld.2.2.1))).trans (hHeld.2.2.1)
             have HS3_ := (hb.cell (World.block_lt_of_cell? _ _ (hHeld.2.2.2))).trans (hHeld.2.2.2)
             refine ⟨_, rfl, ?_⟩
             have n0_ := Aside0.mk (Kd.R_below (by (with_reducible repeat (first | apply Kd.R_alloc | apply Kd.R_drewN | apply Kd.R_drew)); exact HO_15.out) hb)
             have n1_ := Aside0.mk (Kd.R_below (by (with_reducible repeat (first | apply Kd.R_alloc | apply Kd.R_drewN | apply Kd.R_drew)); exact HO_18.out) hb)
             have n2_ := Aside0.mk (below_step (by repeat (first | (with_reducible first | exact HB.out | apply below_alloc | apply pw_below_drewN | apply below_drew1) | exact HB.out)) hb)
             clear HO_15
             clear HO_18
             clear HB
             have HO_15 := n0_
             have HO_18 := n1_
             have HB := n2_
             clear n0_ n1_ n2_
             (try clear hb)
             (try clear hb2)
             (try clear hk)
             (try clear hi)
             refine hK.out _ _ ⟨HS0_, HS1_, HS2_, HS3_⟩ (fun hHeld => ?_)
             clear hK K
             refine norm_ (a' := ?_) ?_ ?_
             rotate_left
             ·show Act.put _ (some 130) _ = _
              simp only [pr_]
              rfl
             refine pure_ (i := 20) (N := some 131) (v := ?_) (a' := ?_) #[true, true, true, true, true, true, true, true, true, true, true, true, true, true, true, true, true, true, true, true, true, false] rfl rfl (any_of HT_.out (by kernel_rfl)) (fun _ _ _ h => h) (Or.inl ⟨by rfl, ?_⟩) ?_ ?_
             rotate_left
             ·intro w'
              go_simp
              with_reducible rfl
             rotate_left
             ·simp only [pr_]
              rfl
             refine pure_ (i := 21) (N := some 132) (v := ?_) (a' := ?_) #[true, true, true, true, true, true, true, true, true, true, true, true, true, true, true, true, true, true, true, true, true, true] rfl rfl (any_of HT_.out (by kernel_rfl)) (fun _ _ _ h => h) (Or.inl ⟨by rfl, ?_⟩) ?_ ?_
             rotate_left
             ·intro w'
              go_simp
              with_reducible rfl
             rotate_left
             ·simp only [pr_]
              rfl
             refine done_ (done_of HT_.out (by kernel_rfl)) ?_
             try go_wp2
             go_roundg k3
             case measure => have := HJ3.out; have := HJ19.out; have := HK3.out; omega
             case rel => exact ⟨(wrap64 (x20_3 + 1)), (by first | rfl | (simp; done) | (simp [*]; done) | exact congrArg Value.bool (nonempty_l _) | (refine congrArg (Value.int _) ?_; first | omega | (unfold Go.RowKit.wrap64; omega))), H', ⟨by have := HJ3.out; have := HJ19.out; have := HK3.out; omega⟩, ⟨by (with_reducible repeat (first | apply Kd.R_alloc | apply Kd.R_drewN | apply Kd.R_drew)); exact HO_15.out⟩, ⟨by (with_reducible repeat (first | apply Kd.R_alloc | apply Kd.R_drewN | apply Kd.R_drew)); exact HO_18.out⟩, ⟨by repeat (first | (with_reducible first | exact HB.out | apply below_alloc | apply pw_below_drewN | apply below_drew1) | exact HB.out)⟩⟩
          ·rw [if_neg c45] at H
           have c45b0 : decide (x20_3 < (t372.length : Int)) = false := decide_eq_false c45
           clear c45
           obtain rfl := Option.some.inj H
           obtain ⟨Ao67, co67, eo67⟩ := Kd.R_slice HO_15.out
           subst eo67
           go_wp2
           go_ret
           exact ⟨by first | rfl | (simp [errW_none, errW_some] <;> rfl) | (simp only [← hji14]; first | rfl | (simp [errW_none, errW_some] <;> rfl)) | (simp [*, errW_none, errW_some] <;> rfl), by repeat (first | (with_reducible first | exact HB.out | apply below_alloc | apply pw_below_drewN | apply below_drew1) | exact HB.out)⟩

end Go.Proofs.YtmnppogihmhdgaaDoor.PP
