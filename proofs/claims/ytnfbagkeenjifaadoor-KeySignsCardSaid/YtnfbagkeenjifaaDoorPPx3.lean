-- WRITTEN BY a program of this work (wip/ownprint.py), for this seat
import Derived.Test.YtnfbagkeenjifaaDoorPPx0
import Derived.Test.YtnfbagkeenjifaaDoorPPx2
namespace Go.Proofs.YtnfbagkeenjifaaDoor.PP
open Go.RowKit Go.Proofs.YtnfbagkeenjifaaDoorW.PrintWords Go.Proofs.YtnfbagkeenjifaaDoorW.PrintLast Go.Proofs.YtnfbagkeenjifaaDoorW.PrintMore
attribute [local go_sem] max2_int min2_int max_two min_two max_three min_three max_four min_four   -- for this text's walks alone
set_option linter.unusedVariables false
set_option linter.unusedSimpArgs false

/-! ### octets_Reader_Take: function 59 -/
def octets_Reader_Take.j0 : Nat → Int → Bool → ByteArray → Bool → Option (ByteArray × ByteArray × Bool)
 | 0, _, _, _, _ => none
 | k + 1, x1, x26, x1000, x1001 => if x26 = true then (some ((⟨#[]⟩ : ByteArray), x1000, true)) else (if 0 ≤ x1 then (if x1 ≤ (x1000.size : Int) then (some (x1000.extract 0 (x1 : Int).toNat, x1000.extract (x1 : Int).toNat x1000.size, x1001)) else (none)) else (none))
def octets_Reader_Take.f (k : Nat) (s0_0 : ByteArray) (s0_1 : Bool) (a1 : Int) : Option (ByteArray × ByteArray × Bool) := if s0_1 = true then (octets_Reader_Take.j0 k a1 true s0_0 s0_1) else (if a1 < 0 then (octets_Reader_Take.j0 k a1 true s0_0 s0_1) else (octets_Reader_Take.j0 k a1 (decide (a1 > (s0_0.size : Int))) s0_0 s0_1))
theorem octets_Reader_Take.mono_l : ∀ k, (∀ y0 y1 y2 y3, LeO (octets_Reader_Take.j0 k y0 y1 y2 y3) (octets_Reader_Take.j0 (k + 1) y0 y1 y2 y3))
 | 0 => fun _ _ _ _ r h => by simp [octets_Reader_Take.j0] at h
 | k + 1 => by
  have ih0 := octets_Reader_Take.mono_l k
  ·intro y0 y1 y2 y3
   unfold octets_Reader_Take.j0
   repeat' first
   | (with_reducible exact ih0 _ _ _ _)
   | (with_reducible exact LeO.refl _)
   | (with_reducible exact LeO.none _)
   | (with_reducible refine LeO.ite ?_ ?_)
   | (with_reducible refine LeO.bind ?_ (fun _ => ?_))
   | exact ih0 _ _ _ _
   | exact LeO.none _
   | refine LeO.ite ?_ ?_
   | refine LeO.bind ?_ (fun _ => ?_)
theorem octets_Reader_Take.mono : ∀ a0 a1 a2 k, LeO (octets_Reader_Take.f k a0 a1 a2) (octets_Reader_Take.f (k + 1) a0 a1 a2) := by
 intro a0 a1 a2 k
 have ih0 := octets_Reader_Take.mono_l k
 unfold octets_Reader_Take.f
 repeat' first
  | (with_reducible exact ih0 _ _ _ _)
  | (with_reducible exact LeO.refl _)
  | (with_reducible exact LeO.none _)
  | (with_reducible refine LeO.ite ?_ ?_)
  | (with_reducible refine LeO.bind ?_ (fun _ => ?_))
  | exact ih0 _ _ _ _
  | exact LeO.none _
  | refine LeO.ite ?_ ?_
  | refine LeO.bind ?_ (fun _ => ?_)
set_option maxHeartbeats 64000000 in
set_option maxRecDepth 100000 in
theorem octets_Reader_Take.calls (k : Nat) (g : Nat) (s0_0 : ByteArray) (s0_1 : Bool) (a1 : Int) (r1 : ByteArray) (r2 : ByteArray) (r3 : Bool) (w0 w : World) (hI : IsS119 w0 w g s0_0 s0_1) (hB : Below w0.heap.size w0 w) (h : octets_Reader_Take.f k s0_0 s0_1 a1 = some (r1, r2, r3)) :
 Calls Tryd.prog 59 #[.pointer (some ⟨g, 0, none⟩), .int .i64 a1] w fun e w' => e = .returned (.string r1) ∧ IsS119 w0 w' g r2 r3 ∧ Below w0.heap.size w0 w' ∧ KeepBut w w' g none := by
 have HI0 := Aside0.mk hI
 have HK := Aside0.mk (KeepBut.refl w g none)
 have HL := Aside0.mk hB.size
 clear hI
 have HW0 := Aside0.mk hB.size
 have HB := Aside0.mk hB
 clear hB
 have H : (if s0_1 = true then (octets_Reader_Take.j0 k a1 true s0_0 s0_1) else (if a1 < 0 then (octets_Reader_Take.j0 k a1 true s0_0 s0_1) else (octets_Reader_Take.j0 k a1 (decide (a1 > (s0_0.size : Int))) s0_0 s0_1))) = some (r1, r2, r3) := h
 clear h
 have HC3 := Aside0.mk H
 clear H
 go_enter Tryd.func59, Tryd.ntmps59
 go_upto_region 1 with (fail)
 go_cut [26] (fun v26 wc => ∃ (kq : Nat) (x26_2 : Bool), v26 = .bool x26_2 ∧ Aside0 (octets_Reader_Take.j0 kq a1 x26_2 s0_0 s0_1 = some (r1, r2, r3)) ∧ Aside0 (kq ≤ k) ∧ Aside0 (IsS119 w0 wc g s0_0 s0_1) ∧ Aside0 (KeepBut w wc g none) ∧ Aside0 (Below w0.heap.size w0 wc))
 case first =>
  have H := HC3.out
  clear HC3
  by_cases c4 : s0_1 = true
  ·subst c4
   have H1 : (octets_Reader_Take.j0 k a1 true s0_0 true) = some (r1, r2, r3) := by rw [if_pos rfl] at H; exact H
   clear H
   have H := H1
   clear H1
   have H' := Aside0.mk H
   clear H
   obtain ⟨HGz5, hgz5⟩ := HI0.out
   have hcz5_0 := cellS119_0 HGz5
   have hcz5_1 := cellS119_1 HGz5
   have hfz5_0 := blk_frozen HGz5 0
   have hfz5_1 := blk_frozen HGz5 1
   clear HGz5 hgz5
   go_wp2
   go_meet
   case rel => exact ⟨_, (true), vq_, H', ⟨by first | omega | exact Nat.le_refl _⟩, ⟨by repeat (first | (with_reducible first | exact HI0.out | apply IsS119.alloc | apply IsS119.drewN | apply IsS119.drew | apply IsS119.set_0 | apply IsS119.set_1) | exact HI0.out)⟩, ⟨hk_⟩, ⟨bs_ (IsS119.ge HI0.out)⟩⟩
  replace c4 := Bool.eq_false_iff.mpr c4
  subst c4
  have H1 : (if a1 < 0 then (octets_Reader_Take.j0 k a1 true s0_0 false) else (octets_Reader_Take.j0 k a1 (decide (a1 > (s0_0.size : Int))) s0_0 false)) = some (r1, r2, r3) := by rw [if_neg (show ¬ (false = true) by decide)] at H; exact H
  clear H
  have H := H1
  clear H1
  by_cases c6 : a1 < 0
  ·rw [if_pos c6] at H
   have c6b0 : decide (a1 < 0) = true := decide_eq_true c6
   clear c6
   (first | rw [c6b0] | (simp only [i64_w, i32_w]; rw [c6b0]) | skip)
   have H' := Aside0.mk H
   clear H
   obtain ⟨HGz7, hgz7⟩ := HI0.out
   have hcz7_0 := cellS119_0 HGz7
   have hcz7_1 := cellS119_1 HGz7
   have hfz7_0 := blk_frozen HGz7 0
   have hfz7_1 := blk_frozen HGz7 1
   clear HGz7 hgz7
   go_wp2
   go_meet
   case rel => exact ⟨_, (true), vq_, H', ⟨by first | omega | exact Nat.le_refl _⟩, ⟨by repeat (first | (with_reducible first | exact HI0.out | apply IsS119.alloc | apply IsS119.drewN | apply IsS119.drew | apply IsS119.set_0 | apply IsS119.set_1) | exact HI0.out)⟩, ⟨hk_⟩, ⟨bs_ (IsS119.ge HI0.out)⟩⟩
  rw [if_neg c6] at H
  have c6b0 : decide (a1 < 0) = false := decide_eq_false c6
  clear c6
  (first | rw [c6b0] | (simp only [i64_w, i32_w]; rw [c6b0]) | skip)
  have H' := Aside0.mk H
  clear H
  obtain ⟨HGz8, hgz8⟩ := HI0.out
  have hcz8_0 := cellS119_0 HGz8
  have hcz8_1 := cellS119_1 HGz8
  have hfz8_0 := blk_frozen HGz8 0
  have hfz8_1 := blk_frozen HGz8 1
  clear HGz8 hgz8
  go_wp2
  go_meet
  case rel => exact ⟨_, (decide (a1 > (s0_0.size : Int))), vq_, H', ⟨by first | omega | exact Nat.le_refl _⟩, ⟨by repeat (first | (with_reducible first | exact HI0.out | apply IsS119.alloc | apply IsS119.drewN | apply IsS119.drew | apply IsS119.set_0 | apply IsS119.set_1) | exact HI0.out)⟩, ⟨hk_⟩, ⟨bs_ (IsS119.ge HI0.out)⟩⟩
 case rest =>
  clear HC3
  (try clear p2); (try clear c4); (try clear c5); (try clear c6); (try clear c6b0); (try clear p6); (try clear hcz5_0); (try clear hcz5_1); (try clear hcz7_0); (try clear hcz7_1); (try clear hcz8_0); (try clear hcz8_1); (try clear hfz5_0); (try clear hfz5_1); (try clear hfz7_0); (try clear hfz7_1); (try clear hfz8_0); (try clear hfz8_1)
  obtain ⟨kq, x26_2, rfl, HA, HJ2, HI0, HK, HB⟩ := hcut
  cases kq with
  | zero => exact absurd HA.out (by simp [octets_Reader_Take.j0])
  | succ kj2 =>
   have H := HA.out
   clear HA
   simp only [octets_Reader_Take.j0] at H
   by_cases c9 : x26_2 = true
   ·subst c9
    have H1 : (some ((⟨#[]⟩ : ByteArray), s0_0, true)) = some (r1, r2, r3) := by rw [if_pos rfl] at H; exact H
    clear H
    have H := H1
    clear H1
    simp only [Option.some.injEq, Prod.mk.injEq] at H
    obtain ⟨rfl, rfl, rfl⟩ := H
    obtain ⟨HGz10, hgz10⟩ := HI0.out
    have hcz10_0 := cellS119_0 HGz10
    have hcz10_1 := cellS119_1 HGz10
    have hfz10_0 := blk_frozen HGz10 0
    have hfz10_1 := blk_frozen HGz10 1
    clear HGz10 hgz10
    go_wp2
    go_ret
    exact ⟨er_, by repeat (first | (with_reducible first | exact HI0.out | apply IsS119.alloc | apply IsS119.drewN | apply IsS119.drew | apply IsS119.set_0 | apply IsS119.set_1) | exact HI0.out), bs_ (IsS119.ge HI0.out), hk_⟩
   replace c9 := Bool.eq_false_iff.mpr c9
   subst c9
   have H1 : (if 0 ≤ a1 then (if a1 ≤ (s0_0.size : Int) then (some (s0_0.extract 0 (a1 : Int).toNat, s0_0.extract (a1 : Int).toNat s0_0.size, s0_1)) else (none)) else (none)) = some (r1, r2, r3) := by rw [if_neg (show ¬ (false = true) by decide)] at H; exact H
   clear H
   have H := H1
   clear H1
   revert H; refine ne_ fun c11 c11b0 c11b1 => ne_ fun c12 c12b0 c12b1 H => ?_
   clear c11 c12
   have c13b0 := eq_true (ae_ : 0 ≤ a1)
   have c14b0 := eq_true (ae_ : a1 ≤ (s0_0.size : Int))
   simp only [Option.some.injEq, Prod.mk.injEq] at H
   obtain ⟨rfl, rfl, rfl⟩ := H
   obtain ⟨HGz15, hgz15⟩ := HI0.out
   have hcz15_0 := cellS119_0 HGz15
   have hcz15_1 := cellS119_1 HGz15
   have hfz15_0 := blk_frozen HGz15 0
   have hfz15_1 := blk_frozen HGz15 1
   clear HGz15 hgz15
   go_wp2
   go_ret
   exact ⟨er_, by repeat (first | (with_reducible first | exact HI0.out | apply IsS119.alloc | apply IsS119.drewN | apply IsS119.drew | apply IsS119.set_0 | apply IsS119.set_1) | exact HI0.out), bs_ (IsS119.ge HI0.out), hk_⟩

/-! ### octets_Reader_number: function 76 -/
def octets_Reader_number.l0 : Nat → Int → List Int → Int → Int → ByteArray → Bool → Option (Int × ByteArray × Bool)
 | 0, _, _, _, _, _, _ => none
 | k + 1, x5, x11, x12, x13, x1000, x1001 => if x13 < x12 then (if 0 ≤ x13 then (if x13 < (x11.length : Int) then (octets_Reader_number.l0 k (Go.bits .or .i64 (wrap64 (x5 * 256)) (wrap64 (rd x11 x13))) x11 x12 (wrap64 (x13 + 1)) x1000 x1001) else (none)) else (none)) else (some (x5, x1000, x1001))
def octets_Reader_number.f (k : Nat) (s0_0 : ByteArray) (s0_1 : Bool) (a1 : Int) : Option (Int × ByteArray × Bool) := (octets_Reader_Take.f k s0_0 s0_1 a1).bind fun bt411 => (if bt411.1.size ≤ 9223372036854775807 then ((some (bytesOf bt411.1 : List Int)).bind fun y414 => (octets_Reader_number.l0 k 0 y414 (y414.length : Int) 0 bt411.2.1 bt411.2.2)) else (none))
theorem octets_Reader_number.mono_l : ∀ k, (∀ y0 y1 y2 y3 y4 y5, LeO (octets_Reader_number.l0 k y0 y1 y2 y3 y4 y5) (octets_Reader_number.l0 (k + 1) y0 y1 y2 y3 y4 y5))
 | 0 => fun _ _ _ _ _ _ r h => by simp [octets_Reader_number.l0] at h
 | k + 1 => by
  have ih0 := octets_Reader_number.mono_l k
  ·intro y0 y1 y2 y3 y4 y5
   unfold octets_Reader_number.l0
   repeat' first
   | (with_reducible exact ih0 _ _ _ _ _ _)
   | (with_reducible exact octets_Reader_Take.mono _ _ _ _)
   | (with_reducible exact LeO.refl _)
   | (with_reducible exact LeO.none _)
   | (with_reducible refine LeO.ite ?_ ?_)
   | (with_reducible refine LeO.bind ?_ (fun _ => ?_))
   | exact ih0 _ _ _ _ _ _
   | exact octets_Reader_Take.mono _ _ _ _
   | exact LeO.none _
   | refine LeO.ite ?_ ?_
   | refine LeO.bind ?_ (fun _ => ?_)
theorem octets_Reader_number.mono : ∀ a0 a1 a2 k, LeO (octets_Reader_number.f k a0 a1 a2) (octets_Reader_number.f (k + 1) a0 a1 a2) := by
 intro a0 a1 a2 k
 have ih0 := octets_Reader_number.mono_l k
 unfold octets_Reader_number.f
 repeat' first
  | (with_reducible exact ih0 _ _ _ _ _ _)
  | (with_reducible exact octets_Reader_Take.mono _ _ _ _)
  | (with_reducible exact LeO.refl _)
  | (with_reducible exact LeO.none _)
  | (with_reducible refine LeO.ite ?_ ?_)
  | (with_reducible refine LeO.bind ?_ (fun _ => ?_))
  | exact ih0 _ _ _ _ _ _
  | exact octets_Reader_Take.mono _ _ _ _
  | exact LeO.none _
  | refine LeO.ite ?_ ?_
  | refine LeO.bind ?_ (fun _ => ?_)
set_option maxHeartbeats 64000000 in
set_option maxRecDepth 100000 in
theorem octets_Reader_number.calls (k : Nat) (g : Nat) (s0_0 : ByteArray) (s0_1 : Bool) (a1 : Int) (r1 : Int) (r2 : ByteArray) (r3 : Bool) (w0 w : World) (hI : IsS119 w0 w g s0_0 s0_1) (hB : Below w0.heap.size w0 w) (h : octets_Reader_number.f k s0_0 s0_1 a1 = some (r1, r2, r3)) :
 Calls Tryd.prog 76 #[.pointer (some ⟨g, 0, none⟩), .int .i64 a1] w fun e w' => e = .returned (.int .i64 r1) ∧ IsS119 w0 w' g r2 r3 ∧ Below w0.heap.size w0 w' ∧ KeepBut w w' g none := by
 have HI0 := Aside0.mk hI
 have HK := Aside0.mk (KeepBut.refl w g none)
 have HL := Aside0.mk hB.size
 clear hI
 have HW0 := Aside0.mk hB.size
 have HB := Aside0.mk hB
 clear hB
 have H : ((octets_Reader_Take.f k s0_0 s0_1 a1).bind fun bt411 => (if bt411.1.size ≤ 9223372036854775807 then ((some (bytesOf bt411.1 : List Int)).bind fun y414 => (octets_Reader_number.l0 k 0 y414 (y414.length : Int) 0 bt411.2.1 bt411.2.2)) else (none))) = some (r1, r2, r3) := h
 clear h
 replace H := ob_ H
 obtain ⟨⟨t411, t412, t413⟩, A30, H⟩ := H
 replace H : (if t411.size ≤ 9223372036854775807 then ((some (bytesOf t411 : List Int)).bind fun y414 => (octets_Reader_number.l0 k 0 y414 (y414.length : Int) 0 t412 t413)) else (none)) = some (r1, r2, r3) := H
 have A3 := Aside0.mk A30
 clear A30
 revert H; refine ne_ fun c4 c4b0 c4b1 => oy_ fun y414 Ny414 H => ?_
 try have c4b2 : (9223372036854775807 < t411.size) = False := eq_false (Nat.not_lt.2 c4)
 clear c4
 have H' := Aside0.mk H
 clear H
 go_enter Tryd.func76, Tryd.ntmps76
 go_wp2_with (first | ((with_reducible refine gate_callee (f := 59) rfl ?_); refine gL_ 10 Tryd.func59 #[.pointer (some ⟨g, 0, none⟩), .int .i64 a1] ?_; (with_reducible refine (octets_Reader_Take.calls k g s0_0 s0_1 a1 t411 t412 t413 w0 _ ?side1 ?side2 A3.out).mono ?_); (case side1 => repeat (first | (with_reducible first | exact HI0.out | apply IsS119.alloc | apply IsS119.drewN | apply IsS119.drew | apply IsS119.set_0 | apply IsS119.set_1) | exact HI0.out)); (case side2 => repeat (first | (with_reducible first | exact HB.out | apply lA_ | apply lN_ | apply lD_ | refine lS_ ?_ (IsS119.ge HI0.out)) | exact HB.out)); rintro e w5 ⟨rfl, hi, hb, hk⟩; refine ⟨_, rfl, ?_⟩; replace HI0 := Aside0.mk (hi); replace HB := Aside0.mk (hb); replace HK := Aside0.mk (KeepBut.trans hk_ hk (.inl rfl)); (try clear hb); (try clear hb2); (try clear hk); (try clear hi)) | ((with_reducible refine gate_dst (N := 11) rfl ?_); refine conv_event (P := Tryd.prog) rfl (N := 11) rfl 9 91 5 _ rfl t411 rfl Ny414.out Tryd.underlying9 Tryd.underlying91 Tryd.underlying5 (ae_) ?_; intro A417 c417 w6 hR_ hC_ hb; replace HB := Aside0.mk (below_step (bs_ (IsS119.ge HI0.out)) hb); replace HK := Aside0.mk (KeepBut.trans hk_ (KeepBut.of_below hb g none) (.inl rfl)); replace HI0 := Aside0.mk (IsS119.below (by repeat (first | (with_reducible first | exact HI0.out | apply IsS119.alloc | apply IsS119.drewN | apply IsS119.drew | apply IsS119.set_0 | apply IsS119.set_1) | exact HI0.out)) hb); clear hb; have HR417 := Aside0.mk hR_; have HC417 := Aside0.mk hC_; clear hR_ hC_))
 go_loopg [5, 13] k (fun kq v5 v13 w' => ∃ (x5_1 : Int) (x13_1 : Int), v5 = .int .i64 x5_1 ∧ v13 = .int .i64 x13_1 ∧ Aside0 (octets_Reader_number.l0 kq x5_1 y414 (y414.length : Int) x13_1 t412 t413 = some (r1, r2, r3)) ∧ Aside0 (kq ≤ k) ∧ Aside0 (Kd.C (Kd.int .u8) w' A417 y414.length y414) ∧ Aside0 (IsS119 w0 w' g t412 t413) ∧ Aside0 (KeepBut w w' g none) ∧ Aside0 (Below w0.heap.size w0 w'))
 case atStart => exact ⟨(0), (0), vq_, vq_, H', ⟨Nat.le_refl _⟩, ⟨by repeat (first | (with_reducible exact HR417.out) | (with_reducible refine Kd.C_alloc ?_ _) | (with_reducible refine Kd.C_drewN ?_ _) | (with_reducible refine Kd.C_drew ?_) | exact HR417.out)⟩, ⟨by repeat (first | (with_reducible first | exact HI0.out | apply IsS119.alloc | apply IsS119.drewN | apply IsS119.drew | apply IsS119.set_0 | apply IsS119.set_1) | exact HI0.out)⟩, ⟨hk_⟩, ⟨bs_ (IsS119.ge HI0.out)⟩⟩
 case round =>
  clear H'
  (try clear p2); (try clear c4); (try clear c4b0); (try clear c4b1); (try clear c4b2); (try clear c5); (try clear p6)
  obtain ⟨x5_1, x13_1, rfl, rfl, HA, HK1, HR417, HI0, HK, HB⟩ := hrel
  cases gk with
  | zero => exact absurd HA.out (by simp [octets_Reader_number.l0])
  | succ k1 =>
   have H := HA.out
   clear HA
   simp only [octets_Reader_number.l0] at H
   by_cases c7 : x13_1 < (y414.length : Int)
   ·rw [if_pos c7] at H
    have c7b0 : decide (x13_1 < (y414.length : Int)) = true := decide_eq_true c7
    clear c7
    revert H; refine nd_ fun c8 c8b0 => nd_ fun c9 c9b0 H => ?_
    clear c8 c9
    have H' := Aside0.mk H
    clear H
    have p418 : 0 ≤ (x13_1 : Int) := ae_
    have q418 : x13_1 < (y414.length : Int) := ae_
    obtain ⟨ad418, e418, hx418_0⟩ := Kd.at_int (by repeat (first | (with_reducible exact HR417.out) | (with_reducible refine Kd.C_alloc ?_ _) | (with_reducible refine Kd.C_drewN ?_ _) | (with_reducible refine Kd.C_drew ?_) | exact HR417.out)) x13_1 p418 q418
    cases e418
    replace p418 := eq_true p418
    replace q418 := eq_true q418
    go_wp2
    go_roundg k1
    case measure => have := HK1.out; omega
    case rel => exact ⟨(Go.bits .or .i64 (wrap64 (x5_1 * 256)) (wrap64 (rd y414 x13_1))), (wrap64 (x13_1 + 1)), vq_, vq_, H', ⟨by have := HK1.out; omega⟩, ⟨by repeat (first | (with_reducible exact HR417.out) | (with_reducible refine Kd.C_alloc ?_ _) | (with_reducible refine Kd.C_drewN ?_ _) | (with_reducible refine Kd.C_drew ?_) | exact HR417.out)⟩, ⟨by repeat (first | (with_reducible first | exact HI0.out | apply IsS119.alloc | apply IsS119.drewN | apply IsS119.drew | apply IsS119.set_0 | apply IsS119.set_1) | exact HI0.out)⟩, ⟨hk_⟩, ⟨bs_ (IsS119.ge HI0.out)⟩⟩
   rw [if_neg c7] at H
   have c7b0 : decide (x13_1 < (y414.length : Int)) = false := decide_eq_false c7
   clear c7
   simp only [Option.some.injEq, Prod.mk.injEq] at H
   obtain ⟨rfl, rfl, rfl⟩ := H
   go_wp2
   go_ret
   exact ⟨er_, by repeat (first | (with_reducible first | exact HI0.out | apply IsS119.alloc | apply IsS119.drewN | apply IsS119.drew | apply IsS119.set_0 | apply IsS119.set_1) | exact HI0.out), bs_ (IsS119.ge HI0.out), hk_⟩

/-! ### octets_Reader_Short: function 57 -/
def octets_Reader_Short.f (k : Nat) (s0_0 : ByteArray) (s0_1 : Bool) : Option (Int × ByteArray × Bool) := (octets_Reader_number.f k s0_0 s0_1 2).bind fun bt419 => (some (bt419.1, bt419.2.1, bt419.2.2))
theorem octets_Reader_Short.mono : ∀ a0 a1 k, LeO (octets_Reader_Short.f k a0 a1) (octets_Reader_Short.f (k + 1) a0 a1) := by
 intro a0 a1 k
 unfold octets_Reader_Short.f
 repeat' first
  | (with_reducible exact octets_Reader_number.mono _ _ _ _)
  | (with_reducible exact LeO.refl _)
  | (with_reducible exact LeO.none _)
  | (with_reducible refine LeO.ite ?_ ?_)
  | (with_reducible refine LeO.bind ?_ (fun _ => ?_))
  | exact octets_Reader_number.mono _ _ _ _
  | exact LeO.none _
  | refine LeO.ite ?_ ?_
  | refine LeO.bind ?_ (fun _ => ?_)
set_option maxHeartbeats 64000000 in
set_option maxRecDepth 100000 in
theorem octets_Reader_Short.calls (k : Nat) (g : Nat) (s0_0 : ByteArray) (s0_1 : Bool) (r1 : Int) (r2 : ByteArray) (r3 : Bool) (w0 w : World) (hI : IsS119 w0 w g s0_0 s0_1) (hB : Below w0.heap.size w0 w) (h : octets_Reader_Short.f k s0_0 s0_1 = some (r1, r2, r3)) :
 Calls Tryd.prog 57 #[.pointer (some ⟨g, 0, none⟩)] w fun e w' => e = .returned (.int .i64 r1) ∧ IsS119 w0 w' g r2 r3 ∧ Below w0.heap.size w0 w' ∧ KeepBut w w' g none := by
 have HI0 := Aside0.mk hI
 have HK := Aside0.mk (KeepBut.refl w g none)
 have HL := Aside0.mk hB.size
 clear hI
 have HW0 := Aside0.mk hB.size
 have HB := Aside0.mk hB
 clear hB
 have H : ((octets_Reader_number.f k s0_0 s0_1 2).bind fun bt419 => (some (bt419.1, bt419.2.1, bt419.2.2))) = some (r1, r2, r3) := h
 clear h
 replace H := ob_ H
 obtain ⟨⟨t419, t420, t421⟩, A20, H⟩ := H
 replace H : (some (t419, t420, t421)) = some (r1, r2, r3) := H
 have A2 := Aside0.mk A20
 clear A20
 simp only [Option.some.injEq, Prod.mk.injEq] at H
 obtain ⟨rfl, rfl, rfl⟩ := H
 go_enter Tryd.func57, Tryd.ntmps57
 go_wp2_with (first | ((with_reducible refine gate_callee (f := 76) rfl ?_); refine gL_ 4 Tryd.func76 #[.pointer (some ⟨g, 0, none⟩), .int .i64 2] ?_; (with_reducible refine (octets_Reader_number.calls k g s0_0 s0_1 2 t419 t420 t421 w0 _ ?side1 ?side2 A2.out).mono ?_); (case side1 => repeat (first | (with_reducible first | exact HI0.out | apply IsS119.alloc | apply IsS119.drewN | apply IsS119.drew | apply IsS119.set_0 | apply IsS119.set_1) | exact HI0.out)); (case side2 => repeat (first | (with_reducible first | exact HB.out | apply lA_ | apply lN_ | apply lD_ | refine lS_ ?_ (IsS119.ge HI0.out)) | exact HB.out)); rintro e w3 ⟨rfl, hi, hb, hk⟩; refine ⟨_, rfl, ?_⟩; replace HI0 := Aside0.mk (hi); replace HB := Aside0.mk (hb); replace HK := Aside0.mk (KeepBut.trans hk_ hk (.inl rfl)); clear hb hk hi))
 go_ret
 exact ⟨er_, by repeat (first | (with_reducible first | exact HI0.out | apply IsS119.alloc | apply IsS119.drewN | apply IsS119.drew | apply IsS119.set_0 | apply IsS119.set_1) | exact HI0.out), bs_ (IsS119.ge HI0.out), hk_⟩

/-! ### octets_Reader_Good: function 77 -/
def octets_Reader_Good.f (s0_0 : ByteArray) (s0_1 : Bool) : Option (Bool × ByteArray × Bool) := some (!s0_1, s0_0, s0_1)
set_option maxHeartbeats 64000000 in
set_option maxRecDepth 100000 in
theorem octets_Reader_Good.calls (g : Nat) (s0_0 : ByteArray) (s0_1 : Bool) (r1 : Bool) (r2 : ByteArray) (r3 : Bool) (w0 w : World) (hI : IsS119 w0 w g s0_0 s0_1) (hB : Below w0.heap.size w0 w) (h : octets_Reader_Good.f s0_0 s0_1 = some (r1, r2, r3)) :
 Calls Tryd.prog 77 #[.pointer (some ⟨g, 0, none⟩)] w fun e w' => e = .returned (.bool r1) ∧ IsS119 w0 w' g r2 r3 ∧ Below w0.heap.size w0 w' ∧ KeepBut w w' g none := by
 have HI0 := Aside0.mk hI
 have HK := Aside0.mk (KeepBut.refl w g none)
 have HL := Aside0.mk hB.size
 clear hI
 have HW0 := Aside0.mk hB.size
 have HB := Aside0.mk hB
 clear hB
 have H : (some (!s0_1, s0_0, s0_1)) = some (r1, r2, r3) := h
 clear h
 simp only [Option.some.injEq, Prod.mk.injEq] at H
 obtain ⟨rfl, rfl, rfl⟩ := H
 obtain ⟨HGz2, hgz2⟩ := HI0.out
 have hcz2_0 := cellS119_0 HGz2
 have hcz2_1 := cellS119_1 HGz2
 have hfz2_0 := blk_frozen HGz2 0
 have hfz2_1 := blk_frozen HGz2 1
 clear HGz2 hgz2
 go_enter Tryd.func77, Tryd.ntmps77
 go_wp2
 go_ret
 exact ⟨er_, by repeat (first | (with_reducible first | exact HI0.out | apply IsS119.alloc | apply IsS119.drewN | apply IsS119.drew | apply IsS119.set_0 | apply IsS119.set_1) | exact HI0.out), bs_ (IsS119.ge HI0.out), hk_⟩

/-! ### octets_Reader_Left: function 58 -/
def octets_Reader_Left.f (s0_0 : ByteArray) (s0_1 : Bool) : Option (Int × ByteArray × Bool) := (octets_Reader_Good.f s0_0 s0_1).bind fun bt422 => (if bt422.1 = true then (some ((bt422.2.1.size : Int), bt422.2.1, bt422.2.2)) else (some (0, bt422.2.1, bt422.2.2)))
set_option maxHeartbeats 64000000 in
set_option maxRecDepth 100000 in
theorem octets_Reader_Left.calls (g : Nat) (s0_0 : ByteArray) (s0_1 : Bool) (r1 : Int) (r2 : ByteArray) (r3 : Bool) (w0 w : World) (hI : IsS119 w0 w g s0_0 s0_1) (hB : Below w0.heap.size w0 w) (h : octets_Reader_Left.f s0_0 s0_1 = some (r1, r2, r3)) :
 Calls Tryd.prog 58 #[.pointer (some ⟨g, 0, none⟩)] w fun e w' => e = .returned (.int .i64 r1) ∧ IsS119 w0 w' g r2 r3 ∧ Below w0.heap.size w0 w' ∧ KeepBut w w' g none := by
 have HI0 := Aside0.mk hI
 have HK := Aside0.mk (KeepBut.refl w g none)
 have HL := Aside0.mk hB.size
 clear hI
 have HW0 := Aside0.mk hB.size
 have HB := Aside0.mk hB
 clear hB
 have H : ((octets_Reader_Good.f s0_0 s0_1).bind fun bt422 => (if bt422.1 = true then (some ((bt422.2.1.size : Int), bt422.2.1, bt422.2.2)) else (some (0, bt422.2.1, bt422.2.2)))) = some (r1, r2, r3) := h
 clear h
 replace H := ob_ H
 obtain ⟨⟨t422, t423, t424⟩, A20, H⟩ := H
 replace H : (if t422 = true then (some ((t423.size : Int), t423, t424)) else (some (0, t423, t424))) = some (r1, r2, r3) := H
 have A2 := Aside0.mk A20
 clear A20
 by_cases c3 : t422 = true
 ·subst c3
  have H1 : (some ((t423.size : Int), t423, t424)) = some (r1, r2, r3) := by rw [if_pos rfl] at H; exact H
  clear H
  have H := H1
  clear H1
  simp only [Option.some.injEq, Prod.mk.injEq] at H
  obtain ⟨rfl, rfl, rfl⟩ := H
  go_enter Tryd.func58, Tryd.ntmps58
  go_wp2_with (first | ((with_reducible refine gate_callee (f := 77) rfl ?_); refine gL_ 4 Tryd.func77 #[.pointer (some ⟨g, 0, none⟩)] ?_; (with_reducible refine (octets_Reader_Good.calls g s0_0 s0_1 true t423 t424 w0 _ ?side1 ?side2 A2.out).mono ?_); (case side1 => repeat (first | (with_reducible first | exact HI0.out | apply IsS119.alloc | apply IsS119.drewN | apply IsS119.drew | apply IsS119.set_0 | apply IsS119.set_1) | exact HI0.out)); (case side2 => repeat (first | (with_reducible first | exact HB.out | apply lA_ | apply lN_ | apply lD_ | refine lS_ ?_ (IsS119.ge HI0.out)) | exact HB.out)); rintro e w4 ⟨rfl, hi, hb, hk⟩; refine ⟨_, rfl, ?_⟩; replace HI0 := Aside0.mk (hi); replace HB := Aside0.mk (hb); replace HK := Aside0.mk (KeepBut.trans hk_ hk (.inl rfl)); clear hb hk hi; obtain ⟨HGz5, hgz5⟩ := HI0.out; have hcz5_0 := cellS119_0 HGz5; have hcz5_1 := cellS119_1 HGz5; have hfz5_0 := blk_frozen HGz5 0; have hfz5_1 := blk_frozen HGz5 1; clear HGz5 hgz5))
  go_ret
  exact ⟨er_, by repeat (first | (with_reducible first | exact HI0.out | apply IsS119.alloc | apply IsS119.drewN | apply IsS119.drew | apply IsS119.set_0 | apply IsS119.set_1) | exact HI0.out), bs_ (IsS119.ge HI0.out), hk_⟩
 replace c3 := Bool.eq_false_iff.mpr c3
 subst c3
 have H1 : (some (0, t423, t424)) = some (r1, r2, r3) := by rw [if_neg (show ¬ (false = true) by decide)] at H; exact H
 clear H
 have H := H1
 clear H1
 simp only [Option.some.injEq, Prod.mk.injEq] at H
 obtain ⟨rfl, rfl, rfl⟩ := H
 go_enter Tryd.func58, Tryd.ntmps58
 go_wp2_with (first | ((with_reducible refine gate_callee (f := 77) rfl ?_); refine gL_ 4 Tryd.func77 #[.pointer (some ⟨g, 0, none⟩)] ?_; (with_reducible refine (octets_Reader_Good.calls g s0_0 s0_1 false t423 t424 w0 _ ?side1 ?side2 A2.out).mono ?_); (case side1 => repeat (first | (with_reducible first | exact HI0.out | apply IsS119.alloc | apply IsS119.drewN | apply IsS119.drew | apply IsS119.set_0 | apply IsS119.set_1) | exact HI0.out)); (case side2 => repeat (first | (with_reducible first | exact HB.out | apply lA_ | apply lN_ | apply lD_ | refine lS_ ?_ (IsS119.ge HI0.out)) | exact HB.out)); rintro e w6 ⟨rfl, hi, hb, hk⟩; refine ⟨_, rfl, ?_⟩; replace HI0 := Aside0.mk (hi); replace HB := Aside0.mk (hb); replace HK := Aside0.mk (KeepBut.trans hk_ hk (.inl rfl)); clear hb hk hi))
 go_ret
 exact ⟨er_, by repeat (first | (with_reducible first | exact HI0.out | apply IsS119.alloc | apply IsS119.drewN | apply IsS119.drew | apply IsS119.set_0 | apply IsS119.set_1) | exact HI0.out), bs_ (IsS119.ge HI0.out), hk_⟩

/-! ### key_parts: function 31 -/
mutual
def key_parts.j0 : Nat → ByteArray → Int → Bool → Option (Int × List ByteArray × List ByteArray × Bool)
 | 0, _, _, _ => none
 | k + 1, x0, x6, x32 => if x32 = true then (some (0, ([] : List ByteArray), ([] : List ByteArray), false)) else ((octets_Read.f x0).bind fun bt425 => ((octets_Reader_Short.f k bt425.1 bt425.2).bind fun bt428 => (key_parts.l0 k x6 bt428.1 ([] : List ByteArray) bt428.2.1 bt428.2.2)))
def key_parts.l0 : Nat → Int → Int → List ByteArray → ByteArray → Bool → Option (Int × List ByteArray × List ByteArray × Bool)
 | 0, _, _, _, _, _ => none
 | k + 1, x6, x8, x9, x428000, x428001 => (octets_Reader_Left.f x428000 x428001).bind fun bt431 => (if bt431.1 > 0 then ((octets_Reader_Take.f k bt431.2.1 bt431.2.2 32).bind fun bt434 => (if x9.length < 8796093022208 then (key_parts.l0 k x6 x8 (x9 ++ [bt434.1]) bt434.2.1 bt434.2.2) else (none))) else (if 0 ≤ x6 then (if x8 ≥ (shl .i64 1 x6) then (some (0, ([] : List ByteArray), ([] : List ByteArray), false)) else (if 67 ≤ x9.length then (some (x8, x9.take 67, x9.drop 67, true)) else (none))) else (none)))
end
def key_parts.f (k : Nat) (a0 : ByteArray) : Option (Int × List ByteArray × List ByteArray × Bool) := if (a0.size : Int) < 2 then (key_parts.j0 k a0 (wrap64 ((wrap64 (Int.tdiv (wrap64 ((a0.size : Int) - 2)) 32)) - 67)) true) else (if (Int.tmod (wrap64 ((a0.size : Int) - 2)) 32) = 0 then (if (wrap64 ((wrap64 (Int.tdiv (wrap64 ((a0.size : Int) - 2)) 32)) - 67)) < 0 then (key_parts.j0 k a0 (wrap64 ((wrap64 (Int.tdiv (wrap64 ((a0.size : Int) - 2)) 32)) - 67)) true) else (key_parts.j0 k a0 (wrap64 ((wrap64 (Int.tdiv (wrap64 ((a0.size : Int) - 2)) 32)) - 67)) (decide ((wrap64 ((wrap64 (Int.tdiv (wrap64 ((a0.size : Int) - 2)) 32)) - 67)) > 4)))) else (key_parts.j0 k a0 (wrap64 ((wrap64 (Int.tdiv (wrap64 ((a0.size : Int) - 2)) 32)) - 67)) true))
theorem key_parts.mono_l : ∀ k, (∀ y0 y1 y2, LeO (key_parts.j0 k y0 y1 y2) (key_parts.j0 (k + 1) y0 y1 y2)) ∧ (∀ y0 y1 y2 y3 y4, LeO (key_parts.l0 k y0 y1 y2 y3 y4) (key_parts.l0 (k + 1) y0 y1 y2 y3 y4))
 | 0 => ⟨fun _ _ _ r h => by simp [key_parts.j0] at h, fun _ _ _ _ _ r h => by simp [key_parts.l0] at h⟩
 | k + 1 => by
  obtain ⟨ih0, ih1⟩ := key_parts.mono_l k
  refine ⟨?_, ?_⟩ <;> intros <;> (first | unfold key_parts.j0 | unfold key_parts.l0) <;> repeat' first
  | (with_reducible exact ih0 _ _ _)
  | (with_reducible exact ih1 _ _ _ _ _)
  | (with_reducible exact octets_Reader_Short.mono _ _ _)
  | (with_reducible exact octets_Reader_Take.mono _ _ _ _)
  | (with_reducible exact LeO.refl _)
  | (with_reducible exact LeO.none _)
  | (with_reducible refine LeO.ite ?_ ?_)
  | (with_reducible refine LeO.bind ?_ (fun _ => ?_))
  | exact ih0 _ _ _
  | exact ih1 _ _ _ _ _
  | exact octets_Reader_Short.mono _ _ _
  | exact octets_Reader_Take.mono _ _ _ _
  | exact LeO.none _
  | refine LeO.ite ?_ ?_
  | refine LeO.bind ?_ (fun _ => ?_)
theorem key_parts.mono : ∀ a0 k, LeO (key_parts.f k a0) (key_parts.f (k + 1) a0) := by
 intro a0 k
 obtain ⟨ih0, ih1⟩ := key_parts.mono_l k
 unfold key_parts.f
 repeat' first
  | (with_reducible exact ih0 _ _ _)
  | (with_reducible exact ih1 _ _ _ _ _)
  | (with_reducible exact octets_Reader_Short.mono _ _ _)
  | (with_reducible exact octets_Reader_Take.mono _ _ _ _)
  | (with_reducible exact LeO.refl _)
  | (with_reducible exact LeO.none _)
  | (with_reducible refine LeO.ite ?_ ?_)
  | (with_reducible refine LeO.bind ?_ (fun _ => ?_))
  | exact ih0 _ _ _
  | exact ih1 _ _ _ _ _
  | exact octets_Reader_Short.mono _ _ _
  | exact octets_Reader_Take.mono _ _ _ _
  | exact LeO.none _
  | refine LeO.ite ?_ ?_
  | refine LeO.bind ?_ (fun _ => ?_)
set_option maxHeartbeats 64000000 in
set_option maxRecDepth 100000 in
theorem key_parts.calls (k : Nat) (a0 : ByteArray) (r1 : Int) (r2 : List ByteArray) (r3 : List ByteArray) (r4 : Bool) (w : World) (h : key_parts.f k a0 = some (r1, r2, r3, r4)) :
 Calls Tryd.prog 31 #[.string a0] w fun e w' => ∃ (A1_ A2_ : Option Addr) (c1_ c2_ : Nat), e = .returned (.tuple #[.int .i64 r1, .slice A1_ r2.length c1_, .slice A2_ r3.length c2_, .bool r4]) ∧ Kd.C Kd.string w' A1_ r2.length r2 ∧ r2.length ≤ c1_ ∧ Kd.C Kd.string w' A2_ r3.length r3 ∧ r3.length ≤ c2_ ∧ Below w.heap.size w w' := by
 have HB := Aside0.mk (Below.refl w.heap.size w)
 have H : (if (a0.size : Int) < 2 then (key_parts.j0 k a0 (wrap64 ((wrap64 (Int.tdiv (wrap64 ((a0.size : Int) - 2)) 32)) - 67)) true) else (if (Int.tmod (wrap64 ((a0.size : Int) - 2)) 32) = 0 then (if (wrap64 ((wrap64 (Int.tdiv (wrap64 ((a0.size : Int) - 2)) 32)) - 67)) < 0 then (key_parts.j0 k a0 (wrap64 ((wrap64 (Int.tdiv (wrap64 ((a0.size : Int) - 2)) 32)) - 67)) true) else (key_parts.j0 k a0 (wrap64 ((wrap64 (Int.tdiv (wrap64 ((a0.size : Int) - 2)) 32)) - 67)) (decide ((wrap64 ((wrap64 (Int.tdiv (wrap64 ((a0.size : Int) - 2)) 32)) - 67)) > 4)))) else (key_parts.j0 k a0 (wrap64 ((wrap64 (Int.tdiv (wrap64 ((a0.size : Int) - 2)) 32)) - 67)) true))) = some (r1, r2, r3, r4) := h
 clear h
 have HC2 := Aside0.mk H
 clear H
 go_enter Tryd.func31, Tryd.ntmps31
 go_upto_region 2 with (fail)
 repeat (go_quiet (fail); go_upto_region 2 with (fail))
 go_cut [32] (fun v32 wc => ∃ (kq : Nat) (x32_1 : Bool), v32 = .bool x32_1 ∧ Aside0 (key_parts.j0 kq a0 (wrap64 ((wrap64 (Int.tdiv (wrap64 ((a0.size : Int) - 2)) 32)) - 67)) x32_1 = some (r1, r2, r3, r4)) ∧ Aside0 (kq ≤ k) ∧ Aside0 (Below w.heap.size w wc))
 case first =>
  have H := HC2.out
  clear HC2
  by_cases c3 : (a0.size : Int) < 2
  ·rw [if_pos c3] at H
   have c3b0 : decide ((a0.size : Int) < 2) = true := decide_eq_true c3
   have c3b1 : decide (a0.size < 2) = true := decide_eq_true (by omega)
   clear c3
   (first | rw [c3b0] | (simp only [i64_w, i32_w]; rw [c3b0]) | skip)
   have H' := Aside0.mk H
   clear H
   go_wp2
   repeat (go_quiet (fail); try go_wp2)
   go_meet
   case rel => exact ⟨_, (true), vq_, H', ⟨by first | omega | exact Nat.le_refl _⟩, ⟨bl_⟩⟩
  rw [if_neg c3] at H
  have c3b0 : decide ((a0.size : Int) < 2) = false := decide_eq_false c3
  have c3b1 : decide (a0.size < 2) = false := decide_eq_false (by omega)
  clear c3
  (first | rw [c3b0] | (simp only [i64_w, i32_w]; rw [c3b0]) | skip)
  by_cases c4 : (Int.tmod (wrap64 ((a0.size : Int) - 2)) 32) = 0
  ·rw [if_pos c4] at H
   have c4b0 : ((Int.tmod (wrap64 ((a0.size : Int) - 2)) 32) == 0) = true := beq_iff_eq.mpr c4
   have c4b1 : ((Int.tmod (wrap64 ((a0.size : Int) - 2)) 32) != 0) = false := bne_eq_false_iff_eq.mpr c4
   clear c4
   by_cases c5 : (wrap64 ((wrap64 (Int.tdiv (wrap64 ((a0.size : Int) - 2)) 32)) - 67)) < 0
   ·rw [if_pos c5] at H
    have c5b0 : decide ((wrap64 ((wrap64 (Int.tdiv (wrap64 ((a0.size : Int) - 2)) 32)) - 67)) < 0) = true := decide_eq_true c5
    clear c5
    have H' := Aside0.mk H
    clear H
    go_wp2
    repeat (go_quiet (fail); try go_wp2)
    go_meet
    case rel => exact ⟨_, (true), vq_, H', ⟨by first | omega | exact Nat.le_refl _⟩, ⟨bl_⟩⟩
   rw [if_neg c5] at H
   have c5b0 : decide ((wrap64 ((wrap64 (Int.tdiv (wrap64 ((a0.size : Int) - 2)) 32)) - 67)) < 0) = false := decide_eq_false c5
   clear c5
   have H' := Aside0.mk H
   clear H
   go_wp2
   repeat (go_quiet (fail); try go_wp2)
   go_meet
   case rel => exact ⟨_, (decide ((wrap64 ((wrap64 (Int.tdiv (wrap64 ((a0.size : Int) - 2)) 32)) - 67)) > 4)), vq_, H', ⟨by first | omega | exact Nat.le_refl _⟩, ⟨bl_⟩⟩
  rw [if_neg c4] at H
  have c4b0 : ((Int.tmod (wrap64 ((a0.size : Int) - 2)) 32) == 0) = false := beq_eq_false_iff_ne.mpr c4
  have c4b1 : ((Int.tmod (wrap64 ((a0.size : Int) - 2)) 32) != 0) = true := bne_iff_ne.mpr c4
  have H' := Aside0.mk H
  clear H
  go_wp2
  repeat (go_quiet (fail); try go_wp2)
  go_meet
  case rel => exact ⟨_, (true), vq_, H', ⟨by first | omega | exact Nat.le_refl _⟩, ⟨bl_⟩⟩
 case rest =>
  clear HC2
  obtain ⟨kq, x32_1, rfl, HA, HJ1, HB⟩ := hcut
  cases kq with
  | zero => exact absurd HA.out (by simp [key_parts.j0])
  | succ kj1 =>
   have H := HA.out
   clear HA
   simp only [key_parts.j0] at H
   by_cases c6 : x32_1 = true
   ·subst c6
    have H1 : (some (0, ([] : List ByteArray), ([] : List ByteArray), false)) = some (r1, r2, r3, r4) := by rw [if_pos rfl] at H; exact H
    clear H
    have H := H1
    clear H1
    simp only [Option.some.injEq, Prod.mk.injEq] at H
    obtain ⟨rfl, rfl, rfl, rfl⟩ := H
    go_wp2
    repeat (go_quiet (fail); try go_wp2)
    refine bodyPost_ret (results_list (rs := [.tmp 2, .tmp 3, .tmp 4, .tmp 5]) rfl (by simp) (.tmp (.tmp (.tmp (.tmp .nil))))) rfl ?_
    exact ⟨none, none, 0, 0, er_, Kd.C_nil _ _, Nat.le_refl _, Kd.C_nil _ _, Nat.le_refl _, bl_⟩
   replace c6 := Bool.eq_false_iff.mpr c6
   subst c6
   have H1 : ((octets_Read.f a0).bind fun bt425 => ((octets_Reader_Short.f kj1 bt425.1 bt425.2).bind fun bt428 => (key_parts.l0 kj1 (wrap64 ((wrap64 (Int.tdiv (wrap64 ((a0.size : Int) - 2)) 32)) - 67)) bt428.1 ([] : List ByteArray) bt428.2.1 bt428.2.2))) = some (r1, r2, r3, r4) := by rw [if_neg (show ¬ (false = true) by decide)] at H; exact H
   clear H
   have H := H1
   clear H1
   replace H := ob_ H
   obtain ⟨⟨t425, t426⟩, A70, H⟩ := H
   replace H : ((octets_Reader_Short.f kj1 t425 t426).bind fun bt428 => (key_parts.l0 kj1 (wrap64 ((wrap64 (Int.tdiv (wrap64 ((a0.size : Int) - 2)) 32)) - 67)) bt428.1 ([] : List ByteArray) bt428.2.1 bt428.2.2)) = some (r1, r2, r3, r4) := H
   have A7 := Aside0.mk A70
   clear A70
   replace H := ob_ H
   obtain ⟨⟨t428, t429, t430⟩, A80, H⟩ := H
   replace H : (key_parts.l0 kj1 (wrap64 ((wrap64 (Int.tdiv (wrap64 ((a0.size : Int) - 2)) 32)) - 67)) t428 ([] : List ByteArray) t429 t430) = some (r1, r2, r3, r4) := H
   have A8 := Aside0.mk A80
   clear A80
   have H' := Aside0.mk H
   clear H
   go_wp2_with (first | (go_at_call 56; (with_reducible refine (octets_Read.calls a0 t425 t426 w _ ?side1 A7.out).mono ?_); (case side1 => repeat (first | (with_reducible first | exact HB.out | apply lA_ | apply lN_ | apply lD_) | exact HB.out)); rintro e w9 ⟨g427, rfl, hi, hb, hb2⟩; have HI427 := Aside0.mk (hi); replace HB := Aside0.mk (hb); clear hb hb2 hi) | (go_at_call 57; (with_reducible refine (octets_Reader_Short.calls kj1 g427 t425 t426 t428 t429 t430 w _ ?side1 ?side2 A8.out).mono ?_); (case side1 => repeat (first | (with_reducible first | exact HI427.out | apply IsS119.alloc | apply IsS119.drewN | apply IsS119.drew | apply IsS119.set_0 | apply IsS119.set_1) | exact HI427.out)); (case side2 => repeat (first | (with_reducible first | exact HB.out | apply lA_ | apply lN_ | apply lD_ | refine lS_ ?_ (IsS119.ge HI427.out)) | exact HB.out)); rintro e w10 ⟨rfl, hi, hb, hk⟩; replace HI427 := Aside0.mk (hi); replace HB := Aside0.mk (hb); clear hb hk hi))
   go_loopg [9] kj1 (fun kq v9 w' => ∃ (x9_2 : List ByteArray) (x428000_2 : ByteArray) (x428001_2 : Bool), Aside0 (key_parts.l0 kq (wrap64 ((wrap64 (Int.tdiv (wrap64 ((a0.size : Int) - 2)) 32)) - 67)) t428 x9_2 x428000_2 x428001_2 = some (r1, r2, r3, r4)) ∧ Aside0 (kq ≤ kj1) ∧ Aside0 (Kd.R Kd.string 9 w' w.heap.size (fun _ => True) v9 x9_2) ∧ Aside0 (IsS119 w w' g427 x428000_2 x428001_2) ∧ Aside0 (Below w.heap.size w w'))
   case atStart => exact ⟨(([] : List ByteArray)), (t429), (t430), H', ⟨Nat.le_refl _⟩, ⟨by first | exact Kd.R_nil _ _ _ _ _ | exact Kd.N_nil _ _ _ _ _ | exact Kd.V_nil _ _ _ _ _ | exact Kd.Q_nil _ _ _ _ _ | exact Kd.S_nil _ _ _ _ _⟩, ⟨by repeat (first | (with_reducible first | exact HI427.out | apply IsS119.alloc | apply IsS119.drewN | apply IsS119.drew | apply IsS119.set_0 | apply IsS119.set_1) | exact HI427.out)⟩, ⟨bs_ (IsS119.ge HI427.out)⟩⟩
   case round =>
    clear H'
    obtain ⟨x9_2, x428000_2, x428001_2, HA, HK2, HO_9, HI427, HB⟩ := hrel
    cases gk with
    | zero => exact absurd HA.out (by simp [key_parts.l0])
    | succ k2 =>
     have H := HA.out
     clear HA
     simp only [key_parts.l0] at H
     replace H := ob_ H
     obtain ⟨⟨t431, t432, t433⟩, A110, H⟩ := H
     replace H : (if t431 > 0 then ((octets_Reader_Take.f k2 t432 t433 32).bind fun bt434 => (if x9_2.length < 8796093022208 then (key_parts.l0 k2 (wrap64 ((wrap64 (Int.tdiv (wrap64 ((a0.size : Int) - 2)) 32)) - 67)) t428 (x9_2 ++ [bt434.1]) bt434.2.1 bt434.2.2) else (none))) else (if 0 ≤ (wrap64 ((wrap64 (Int.tdiv (wrap64 ((a0.size : Int) - 2)) 32)) - 67)) then (if t428 ≥ (shl .i64 1 (wrap64 ((wrap64 (Int.tdiv (wrap64 ((a0.size : Int) - 2)) 32)) - 67))) then (some (0, ([] : List ByteArray), ([] : List ByteArray), false)) else (if 67 ≤ x9_2.length then (some (t428, x9_2.take 67, x9_2.drop 67, true)) else (none))) else (none))) = some (r1, r2, r3, r4) := H
     have A11 := Aside0.mk A110
     clear A110
     by_cases c12 : t431 > 0
     ·rw [if_pos c12] at H
      have c12b0 : decide (0 < t431) = true := decide_eq_true c12
      clear c12
      replace H := ob_ H
      obtain ⟨⟨t434, t435, t436⟩, A130, H⟩ := H
      replace H : (if x9_2.length < 8796093022208 then (key_parts.l0 k2 (wrap64 ((wrap64 (Int.tdiv (wrap64 ((a0.size : Int) - 2)) 32)) - 67)) t428 (x9_2 ++ [t434]) t435 t436) else (none)) = some (r1, r2, r3, r4) := H
      have A13 := Aside0.mk A130
      clear A130
      revert H; refine nc_ fun c14 H => ?_
      have LMc14 := Aside0.mk c14
      clear c14
      generalize e_ : (x9_2 ++ [t434] : List ByteArray) = y437 at H
      have Ny437 := Aside0.mk e_.symm
      clear e_
      have H' := Aside0.mk H
      clear H
      go_wp2_with (first | (go_at_call 58; (with_reducible refine (octets_Reader_Left.calls g427 x428000_2 x428001_2 t431 t432 t433 w _ ?side1 ?side2 A11.out).mono ?_); (case side1 => repeat (first | (with_reducible first | exact HI427.out | apply IsS119.alloc | apply IsS119.drewN | apply IsS119.drew | apply IsS119.set_0 | apply IsS119.set_1) | exact HI427.out)); (case side2 => repeat (first | (with_reducible first | exact HB.out | apply lA_ | apply lN_ | apply lD_ | refine lS_ ?_ (IsS119.ge HI427.out)) | exact HB.out)); rintro e w15 ⟨rfl, hi, hb, hk⟩; replace HB := Aside0.mk (hb); replace HO_9 := Aside0.mk (Kd.R_mono (Kd.R_keep (IsS119.apart (show IsS119 w _ g427 x428000_2 x428001_2 from by repeat (first | (with_reducible first | exact HI427.out | apply IsS119.alloc | apply IsS119.drewN | apply IsS119.drew | apply IsS119.set_0 | apply IsS119.set_1) | exact HI427.out)) (mv_ HO_9.out) (by decide)) hk (fun _ h => h.2)) (fun _ h => h.1)); replace HI427 := Aside0.mk (hi); clear hb hk hi) | (go_at_call 59; (with_reducible refine (octets_Reader_Take.calls k2 g427 t432 t433 32 t434 t435 t436 w _ ?side1 ?side2 A13.out).mono ?_); (case side1 => repeat (first | (with_reducible first | exact HI427.out | apply IsS119.alloc | apply IsS119.drewN | apply IsS119.drew | apply IsS119.set_0 | apply IsS119.set_1) | exact HI427.out)); (case side2 => repeat (first | (with_reducible first | exact HB.out | apply lA_ | apply lN_ | apply lD_ | refine lS_ ?_ (IsS119.ge HI427.out)) | exact HB.out)); rintro e w16 ⟨rfl, hi, hb, hk⟩; replace HB := Aside0.mk (hb); replace HO_9 := Aside0.mk (Kd.R_mono (Kd.R_keep (IsS119.apart (show IsS119 w _ g427 t432 t433 from by repeat (first | (with_reducible first | exact HI427.out | apply IsS119.alloc | apply IsS119.drewN | apply IsS119.drew | apply IsS119.set_0 | apply IsS119.set_1) | exact HI427.out)) (mv_ HO_9.out) (by decide)) hk (fun _ h => h.2)) (fun _ h => h.1)); replace HI427 := Aside0.mk (hi); clear hb hk hi) | ((with_reducible refine gate_builtin (b := .append) (xs := #[.tmp 40, .tmp 43]) rfl ?_); ((refine gate_guard (by rfl) ?_; dsimp only)); at_builtin; refine Kd.R_append Kd.string (w0 := w) w.heap.size rfl (.tmp 40) (.tmp 43) 53 9 (.string ⟨#[]⟩) 16 rfl Tryd.underlying53 info9 rfl (by decide) (by omega) u9 x9_2 t434 [.string t434] (fun _ => True) (fun _ => False) rfl rfl ?aP (fun _ hk => hk.elim) ?aF ?aO ?aB ?aS ?aL ?_; (case aP => exact rfl); (case aB => exact (bs_ (IsS119.ge HI427.out))); (case aF => exact (fun _ _ => trivial)); (case aO => exact (mv_ HO_9.out)); (case aS => exact (below_size (bs_ (IsS119.ge HI427.out)))); (case aL => have := LMc14.out; omega); intro v438 w17 ho hb hg hat; rw [← Ny437.out] at ho; have HO439 := Aside0.mk (ho); replace HB := Aside0.mk (hb); replace HI427 := Aside0.mk (IsS119.grown (by repeat (first | (with_reducible first | exact HI427.out | apply IsS119.alloc | apply IsS119.drewN | apply IsS119.drew | apply IsS119.set_0 | apply IsS119.set_1) | exact HI427.out)) hg (IsS119.own_ne HI427.out HO_9.out (by decide))); clear HO_9; clear ho hb hg hat))
      go_roundg k2
      case measure => have := HJ1.out; have := HK2.out; omega
      case rel => exact ⟨(y437), (t435), (t436), H', ⟨by have := HJ1.out; have := HK2.out; omega⟩, ⟨mv_ HO439.out⟩, ⟨by repeat (first | (with_reducible first | exact HI427.out | apply IsS119.alloc | apply IsS119.drewN | apply IsS119.drew | apply IsS119.set_0 | apply IsS119.set_1) | exact HI427.out)⟩, ⟨bs_ (IsS119.ge HI427.out)⟩⟩
     rw [if_neg c12] at H
     have c12b0 : decide (0 < t431) = false := decide_eq_false c12
     clear c12
     generalize hji18 : (wrap64 ((wrap64 (Int.tdiv (wrap64 ((a0.size : Int) - 2)) 32)) - 67)) = ji18 at H
     have hji18w := (i64_w _).trans hji18
     revert H; refine ne_ fun c19 c19b0 c19b1 H => ?_
     clear c19
     generalize hji20 : (shl .i64 1 (ji18)) = ji20 at H
     have hji20_ : (IntKind.i64.wrap (1 * 2 ^ min (ji18).toNat 64)) = ji20 := hji20
     have hji20z : (ji18) ≤ 64 → (IntKind.i64.wrap (1 * 2 ^ (ji18).toNat)) = ji20 := shl_small hji20
     have hji20u : (IntKind.i64.wrap (2 ^ min (ji18).toNat 64)) = ji20 := by have h_ := hji20_; rw [Int.one_mul] at h_; exact h_
     have hji20v : (ji18) ≤ 64 → (IntKind.i64.wrap (2 ^ (ji18).toNat)) = ji20 := fun hle_ => by have h_ := hji20z hle_; rw [Int.one_mul] at h_; exact h_
     have hji20y : (wrap64 (1 * 2 ^ min (ji18).toNat 64)) = ji20 := (i64_w _).symm.trans hji20_
     have hji20x : (ji18) ≤ 64 → (wrap64 (1 * 2 ^ (ji18).toNat)) = ji20 := fun h_ => (i64_w _).symm.trans (hji20z h_)
     by_cases c21 : t428 ≥ (ji20)
     ·rw [if_pos c21] at H
      have c21b0 : decide ((ji20) ≤ t428) = true := decide_eq_true c21
      clear c21
      simp only [Option.some.injEq, Prod.mk.injEq] at H
      obtain ⟨rfl, rfl, rfl, rfl⟩ := H
      go_wp2_with (first | (go_at_call 58; (with_reducible refine (octets_Reader_Left.calls g427 x428000_2 x428001_2 t431 t432 t433 w _ ?side1 ?side2 A11.out).mono ?_); (case side1 => repeat (first | (with_reducible first | exact HI427.out | apply IsS119.alloc | apply IsS119.drewN | apply IsS119.drew | apply IsS119.set_0 | apply IsS119.set_1) | exact HI427.out)); (case side2 => repeat (first | (with_reducible first | exact HB.out | apply lA_ | apply lN_ | apply lD_ | refine lS_ ?_ (IsS119.ge HI427.out)) | exact HB.out)); rintro e w22 ⟨rfl, hi, hb, hk⟩; replace HB := Aside0.mk (hb); replace HO_9 := Aside0.mk (Kd.R_mono (Kd.R_keep (IsS119.apart (show IsS119 w _ g427 x428000_2 x428001_2 from by repeat (first | (with_reducible first | exact HI427.out | apply IsS119.alloc | apply IsS119.drewN | apply IsS119.drew | apply IsS119.set_0 | apply IsS119.set_1) | exact HI427.out)) (mv_ HO_9.out) (by decide)) hk (fun _ h => h.2)) (fun _ h => h.1)); replace HI427 := Aside0.mk (hi); clear hb hk hi))
      refine bodyPost_ret (results_list (rs := [.tmp 2, .tmp 3, .tmp 4, .tmp 5]) rfl (by simp) (.tmp (.tmp (.tmp (.tmp .nil))))) rfl ?_
      exact ⟨none, none, 0, 0, by first | rfl | (simp [errW_none, errW_some] <;> rfl) | (simp only [← hji18, ← hji20]; first | rfl | (simp [errW_none, errW_some] <;> rfl)) | (simp [*, errW_none, errW_some] <;> rfl), Kd.C_nil _ _, Nat.le_refl _, Kd.C_nil _ _, Nat.le_refl _, bs_ (IsS119.ge HI427.out)⟩
     rw [if_neg c21] at H
     have c21b0 : decide ((ji20) ≤ t428) = false := decide_eq_false c21
     clear c21
     have c67_ : 67 ≤ x9_2.length := by by_cases z_ : 67 ≤ x9_2.length <;> first | exact z_ | (rw [if_neg z_] at H; cases H)
     rw [if_pos c67_] at H
     obtain ⟨A_, c_, e_⟩ := Kd.R_slice HO_9.out
     subst e_
     have hc_ := (Kd.R_reads' HO_9.out).2.1
     obtain ⟨i0_, hi0_, _, hsz_, _⟩ := info_parts info9
     have k1_ := cut_to (P := Tryd.prog) 53 9 .i64 Tryd.underlying53 hi0_ A_ x9_2.length c_ 67 (by decide) (by omega) hc_
     have k2_ := cut_from (P := Tryd.prog) 53 9 .i64 Tryd.underlying53 hi0_ 1 hsz_ A_ x9_2.length c_ 67 (by decide) (by omega)
     obtain ⟨A2_, hA2_⟩ : ∃ z : Option Addr, (if c_ = 67 then A_ else A_.map (·.add (67 * 1))) = z := ⟨_, rfl⟩
     replace k2_ : ∀ W : World, (Instr.slice 53 (.slice A_ x9_2.length c_) (some (.int .i64 67)) none none).run Tryd.prog W = .ok (.slice A2_ (x9_2.length - 67) (c_ - 67)) W := by intro W; rw [k2_ W]; show Result.ok (Value.slice (if c_ = 67 then A_ else A_.map (·.add (67 * 1))) _ _) W = _; rw [hA2_]; rfl
     replace k1_ : ∀ W : World, (Instr.slice 53 (.slice A_ x9_2.length c_) none (some (.int .i64 67)) none).run Tryd.prog W = .ok (.slice A_ 67 c_) W := k1_
     simp only [Option.some.injEq, Prod.mk.injEq] at H
     obtain ⟨rfl, rfl, rfl, rfl⟩ := H
     go_wp2_with (first | (go_at_call 58; (with_reducible refine (octets_Reader_Left.calls g427 x428000_2 x428001_2 t431 t432 t433 w _ ?side1 ?side2 A11.out).mono ?_); (case side1 => repeat (first | (with_reducible first | exact HI427.out | apply IsS119.alloc | apply IsS119.drewN | apply IsS119.drew | apply IsS119.set_0 | apply IsS119.set_1) | exact HI427.out)); (case side2 => repeat (first | (with_reducible first | exact HB.out | apply lA_ | apply lN_ | apply lD_ | refine lS_ ?_ (IsS119.ge HI427.out)) | exact HB.out)); rintro e w23 ⟨rfl, hi, hb, hk⟩; replace HB := Aside0.mk (hb); replace HO_9 := Aside0.mk (Kd.R_mono (Kd.R_keep (IsS119.apart (show IsS119 w _ g427 x428000_2 x428001_2 from by repeat (first | (with_reducible first | exact HI427.out | apply IsS119.alloc | apply IsS119.drewN | apply IsS119.drew | apply IsS119.set_0 | apply IsS119.set_1) | exact HI427.out)) (mv_ HO_9.out) (by decide)) hk (fun _ h => h.2)) (fun _ h => h.1)); replace HI427 := Aside0.mk (hi); clear hb hk hi))
     repeat (go_quiet (fail); try go_wp2)
     refine bodyPost_ret (results_list (rs := [.tmp 2, .tmp 3, .tmp 4, .tmp 5]) rfl (by simp) (.tmp (.tmp (.tmp (.tmp .nil))))) rfl ?_
     have hC_ := (Kd.R_reads' HO_9.out).2.2
     have l1_ : (x9_2.take 67).length = 67 := by rw [List.length_take]; omega
     have l2_ : (x9_2.drop 67).length = x9_2.length - 67 := List.length_drop
     have hT_ := Kd.C_take (m := 67) hC_ c67_
     have hD_ := Kd.C_drop (m := 67) hC_ c67_ hc_
     rw [show (if c_ = 67 then A_ else A_.map (·.add (67 * Kd.string.sz))) = A2_ from hA2_] at hD_
     exact ⟨A_, A2_, c_, c_ - 67, by rw [l1_, l2_]; rfl, by (with_reducible repeat (first | apply Kd.C_alloc | apply Kd.C_drewN | apply Kd.C_drew)); exact hT_, by omega, by (with_reducible repeat (first | apply Kd.C_alloc | apply Kd.C_drewN | apply Kd.C_drew)); exact hD_, by omega, bs_ (IsS119.ge HI427.out)⟩

/-! ### key_Leaf: function 15 (walked by hand) -/
def key_Leaf.f (k : Nat) (a0 : ByteArray) : Option (Int × Bool) := (key_parts.f k a0).bind fun t => some (t.1, t.2.2.2)
theorem key_Leaf.mono : ∀ a0 k, LeO (key_Leaf.f k a0) (key_Leaf.f (k + 1) a0) := by
  intro a0 k
  unfold key_Leaf.f
  exact LeO.bind (key_parts.mono _ _) fun _ => LeO.refl _
set_option maxHeartbeats 8000000 in
set_option maxRecDepth 100000 in
theorem key_Leaf.calls (k : Nat) (a0 : ByteArray) (r1 : Int) (r2 : Bool) (w : World) (h : key_Leaf.f k a0 = some (r1, r2)) :
    Calls Tryd.prog 15 #[.string a0] w fun e w' => e = .returned (.tuple #[.int .i64 r1, .bool r2]) ∧ Below w.heap.size w w' := by
  unfold key_Leaf.f at h
  replace h := Option.bind_eq_some_iff.mp h
  obtain ⟨⟨leaf, vs, ps, ok⟩, hP, h⟩ := h
  simp only [Option.some.injEq, Prod.mk.injEq] at h
  obtain ⟨rfl, rfl⟩ := h
  have A1 := Aside0.mk hP
  clear hP
  go_enter Tryd.func15, Tryd.ntmps15
  go_wp2_with (go_at_call 31; (with_reducible refine (key_parts.calls k a0 leaf vs ps ok _ A1.out).mono ?_); rintro e w1 ⟨P1, P2, q1, q2, rfl, _, _, _, _, hb⟩; have HB := Aside0.mk hb; clear hb)
  go_ret2
  exact ⟨rfl, HB.out⟩


-- NOT PRINTED: function 5 (palaverlaw05_KeySigns)

end Go.Proofs.YtnfbagkeenjifaaDoor.PP
