-- WRITTEN BY a program of this work (wip/ownprint.py), for this seat
import Derived.Test.YtippjfgjehfhhaaPPx0
import Derived.Test.YtippjfgjehfhhaaPPx1
namespace Go.Proofs.Ytippjfgjehfhhaa.PP
open Go.RowKit Go.Proofs.YtippjfgjehfhhaaW.PrintWords Go.Proofs.YtippjfgjehfhhaaW.PrintLast Go.Proofs.YtippjfgjehfhhaaW.PrintMore
attribute [local go_sem] max2_int min2_int max_two min_two max_three min_three max_four min_four   -- for this text's walks alone
set_option linter.unusedVariables false
set_option linter.unusedSimpArgs false

/-! ### octets_Reader_Take: function 21 -/
def octets_Reader_Take.j0 : Nat → Int → Bool → ByteArray → Bool → Option (ByteArray × ByteArray × Bool)
 | 0, _, _, _, _ => none
 | k + 1, x1, x26, x1000, x1001 => if x26 = true then (some ((⟨#[]⟩ : ByteArray), x1000, true)) else (if 0 ≤ x1 then (if x1 ≤ (x1000.size : Int) then (some (x1000.extract 0 (x1 : Int).toNat, x1000.extract (x1 : Int).toNat x1000.size, x1001)) else (none)) else (none))
def octets_Reader_Take.f (k : Nat) (s0_0 : ByteArray) (s0_1 : Bool) (a1 : Int) : Option (ByteArray × ByteArray × Bool) := if s0_1 = true then (octets_Reader_Take.j0 k a1 true s0_0 s0_1) else (if a1 < 0 then (octets_Reader_Take.j0 k a1 true s0_0 s0_1) else (octets_Reader_Take.j0 k a1 (decide (a1 > (s0_0.size : Int))) s0_0 s0_1))
theorem octets_Reader_Take.mono_l : ∀ k, (∀ y0 y1 y2 y3, LeO (octets_Reader_Take.j0 k y0 y1 y2 y3) (octets_Reader_Take.j0 (k + 1) y0 y1 y2 y3))
 | 0 => fun _ _ _ _ r h => by simp [octets_Reader_Take.j0] at h
 | k + 1 => by
  have ih0 := octets_Reader_Take.mono_l k
  ·intro y0 y1 y2 y3
   unfold octets_Reader_Take.j0
   repeat' first
   | (with_reducible exact ih0 _ _ _ _)
   | (with_reducible exact LeO.refl _)
   | (with_reducible exact LeO.none _)
   | (with_reducible refine LeO.ite ?_ ?_)
   | (with_reducible refine LeO.bind ?_ (fun _ => ?_))
   | exact ih0 _ _ _ _
   | exact LeO.none _
   | refine LeO.ite ?_ ?_
   | refine LeO.bind ?_ (fun _ => ?_)
theorem octets_Reader_Take.mono : ∀ a0 a1 a2 k, LeO (octets_Reader_Take.f k a0 a1 a2) (octets_Reader_Take.f (k + 1) a0 a1 a2) := by
 intro a0 a1 a2 k
 have ih0 := octets_Reader_Take.mono_l k
 unfold octets_Reader_Take.f
 repeat' first
  | (with_reducible exact ih0 _ _ _ _)
  | (with_reducible exact LeO.refl _)
  | (with_reducible exact LeO.none _)
  | (with_reducible refine LeO.ite ?_ ?_)
  | (with_reducible refine LeO.bind ?_ (fun _ => ?_))
  | exact ih0 _ _ _ _
  | exact LeO.none _
  | refine LeO.ite ?_ ?_
  | refine LeO.bind ?_ (fun _ => ?_)
set_option maxHeartbeats 64000000 in
set_option maxRecDepth 100000 in
theorem octets_Reader_Take.calls (k : Nat) (g : Nat) (s0_0 : ByteArray) (s0_1 : Bool) (a1 : Int) (r1 : ByteArray) (r2 : ByteArray) (r3 : Bool) (w0 w : World) (hI : IsS47 w0 w g s0_0 s0_1) (hB : Below w0.heap.size w0 w) (h : octets_Reader_Take.f k s0_0 s0_1 a1 = some (r1, r2, r3)) :
 Calls Try.prog 21 #[.pointer (some ⟨g, 0, none⟩), .int .i64 a1] w fun e w' => e = .returned (.string r1) ∧ IsS47 w0 w' g r2 r3 ∧ Below w0.heap.size w0 w' ∧ KeepBut w w' g none := by
 have HI0 := Aside0.mk hI
 have HK := Aside0.mk (KeepBut.refl w g none)
 have HL := Aside0.mk hB.size
 clear hI
 have HW0 := Aside0.mk hB.size
 have HB := Aside0.mk hB
 clear hB
 have H : (if s0_1 = true then (octets_Reader_Take.j0 k a1 true s0_0 s0_1) else (if a1 < 0 then (octets_Reader_Take.j0 k a1 true s0_0 s0_1) else (octets_Reader_Take.j0 k a1 (decide (a1 > (s0_0.size : Int))) s0_0 s0_1))) = some (r1, r2, r3) := h
 clear h
 have HC3 := Aside0.mk H
 clear H
 go_enter Try.func21, Try.ntmps21
 go_upto_region 1 with (fail)
 go_cut [26] (fun v26 wc => ∃ (kq : Nat) (x26_2 : Bool), v26 = .bool x26_2 ∧ Aside0 (octets_Reader_Take.j0 kq a1 x26_2 s0_0 s0_1 = some (r1, r2, r3)) ∧ Aside0 (kq ≤ k) ∧ Aside0 (IsS47 w0 wc g s0_0 s0_1) ∧ Aside0 (KeepBut w wc g none) ∧ Aside0 (Below w0.heap.size w0 wc))
 case first =>
  have H := HC3.out
  clear HC3
  by_cases c4 : s0_1 = true
  ·subst c4
   have H1 : (octets_Reader_Take.j0 k a1 true s0_0 true) = some (r1, r2, r3) := by rw [if_pos rfl] at H; exact H
   clear H
   have H := H1
   clear H1
   have H' := Aside0.mk H
   clear H
   obtain ⟨HGz5, hgz5⟩ := HI0.out
   have hcz5_0 := cellS47_0 HGz5
   have hcz5_1 := cellS47_1 HGz5
   have hfz5_0 := blk_frozen HGz5 0
   have hfz5_1 := blk_frozen HGz5 1
   clear HGz5 hgz5
   go_wp2
   go_meet
   case rel => exact ⟨_, (true), (by first | rfl | (simp; done) | (simp [*]; done) | exact congrArg Value.bool (nonempty_l _) | (refine congrArg (Value.int _) ?_; first | omega | (unfold Go.RowKit.wrap64; omega))), H', ⟨by first | omega | exact Nat.le_refl _⟩, ⟨by repeat (first | (with_reducible first | exact HI0.out | apply IsS47.alloc | apply IsS47.drewN | apply IsS47.drew | apply IsS47.set_0 | apply IsS47.set_1) | exact HI0.out)⟩, ⟨by repeat (first | (with_reducible first | exact HK.out | apply KeepBut.set_ | apply keep_drewN | apply keep_drew | apply keep_alloc) | exact HK.out)⟩, ⟨by repeat (first | (with_reducible first | exact HB.out | apply below_alloc | apply pw_below_drewN | apply below_drew1 | refine below_set ?_ (IsS47.ge HI0.out)) | exact HB.out)⟩⟩
  ·replace c4 := Bool.eq_false_iff.mpr c4
   subst c4
   have H1 : (if a1 < 0 then (octets_Reader_Take.j0 k a1 true s0_0 false) else (octets_Reader_Take.j0 k a1 (decide (a1 > (s0_0.size : Int))) s0_0 false)) = some (r1, r2, r3) := by rw [if_neg (show ¬ (false = true) by decide)] at H; exact H
   clear H
   have H := H1
   clear H1
   by_cases c6 : a1 < 0
   ·rw [if_pos c6] at H
    have c6b0 : decide (a1 < 0) = true := decide_eq_true c6
    clear c6
    (first | rw [c6b0] | (simp only [i64_w, i32_w]; rw [c6b0]) | skip)
    have H' := Aside0.mk H
    clear H
    obtain ⟨HGz7, hgz7⟩ := HI0.out
    have hcz7_0 := cellS47_0 HGz7
    have hcz7_1 := cellS47_1 HGz7
    have hfz7_0 := blk_frozen HGz7 0
    have hfz7_1 := blk_frozen HGz7 1
    clear HGz7 hgz7
    go_wp2
    go_meet
    case rel => exact ⟨_, (true), (by first | rfl | (simp; done) | (simp [*]; done) | exact congrArg Value.bool (nonempty_l _) | (refine congrArg (Value.int _) ?_; first | omega | (unfold Go.RowKit.wrap64; omega))), H', ⟨by first | omega | exact Nat.le_refl _⟩, ⟨by repeat (first | (with_reducible first | exact HI0.out | apply IsS47.alloc | apply IsS47.drewN | apply IsS47.drew | apply IsS47.set_0 | apply IsS47.set_1) | exact HI0.out)⟩, ⟨by repeat (first | (with_reducible first | exact HK.out | apply KeepBut.set_ | apply keep_drewN | apply keep_drew | apply keep_alloc) | exact HK.out)⟩, ⟨by repeat (first | (with_reducible first | exact HB.out | apply below_alloc | apply pw_below_drewN | apply below_drew1 | refine below_set ?_ (IsS47.ge HI0.out)) | exact HB.out)⟩⟩
   ·rw [if_neg c6] at H
    have c6b0 : decide (a1 < 0) = false := decide_eq_false c6
    clear c6
    (first | rw [c6b0] | (simp only [i64_w, i32_w]; rw [c6b0]) | skip)
    have H' := Aside0.mk H
    clear H
    obtain ⟨HGz8, hgz8⟩ := HI0.out
    have hcz8_0 := cellS47_0 HGz8
    have hcz8_1 := cellS47_1 HGz8
    have hfz8_0 := blk_frozen HGz8 0
    have hfz8_1 := blk_frozen HGz8 1
    clear HGz8 hgz8
    go_wp2
    go_meet
    case rel => exact ⟨_, (decide (a1 > (s0_0.size : Int))), (by first | rfl | (simp; done) | (simp [*]; done) | exact congrArg Value.bool (nonempty_l _) | (refine congrArg (Value.int _) ?_; first | omega | (unfold Go.RowKit.wrap64; omega))), H', ⟨by first | omega | exact Nat.le_refl _⟩, ⟨by repeat (first | (with_reducible first | exact HI0.out | apply IsS47.alloc | apply IsS47.drewN | apply IsS47.drew | apply IsS47.set_0 | apply IsS47.set_1) | exact HI0.out)⟩, ⟨by repeat (first | (with_reducible first | exact HK.out | apply KeepBut.set_ | apply keep_drewN | apply keep_drew | apply keep_alloc) | exact HK.out)⟩, ⟨by repeat (first | (with_reducible first | exact HB.out | apply below_alloc | apply pw_below_drewN | apply below_drew1 | refine below_set ?_ (IsS47.ge HI0.out)) | exact HB.out)⟩⟩
 case rest =>
  clear HC3
  (try clear c2); (try clear p2); (try clear c4); (try clear c6); (try clear c6b0); (try clear p6); (try clear hcz5_0); (try clear hcz5_1); (try clear hcz7_0); (try clear hcz7_1); (try clear hcz8_0); (try clear hcz8_1); (try clear hfz5_0); (try clear hfz5_1); (try clear hfz7_0); (try clear hfz7_1); (try clear hfz8_0); (try clear hfz8_1)
  obtain ⟨kq, x26_2, rfl, HA, HJ2, HI0, HK, HB⟩ := hcut
  cases kq with
  | zero => exact absurd HA.out (by simp [octets_Reader_Take.j0])
  | succ kj2 =>
   have H := HA.out
   clear HA
   simp only [octets_Reader_Take.j0] at H
   by_cases c9 : x26_2 = true
   ·subst c9
    have H1 : (some ((⟨#[]⟩ : ByteArray), s0_0, true)) = some (r1, r2, r3) := by rw [if_pos rfl] at H; exact H
    clear H
    have H := H1
    clear H1
    simp only [Option.some.injEq, Prod.mk.injEq] at H
    obtain ⟨rfl, rfl, rfl⟩ := H
    obtain ⟨HGz10, hgz10⟩ := HI0.out
    have hcz10_0 := cellS47_0 HGz10
    have hcz10_1 := cellS47_1 HGz10
    have hfz10_0 := blk_frozen HGz10 0
    have hfz10_1 := blk_frozen HGz10 1
    clear HGz10 hgz10
    go_wp2
    go_ret
    exact ⟨by first | rfl | (simp [errW_none, errW_some] <;> rfl) | (simp [*, errW_none, errW_some] <;> rfl), by repeat (first | (with_reducible first | exact HI0.out | apply IsS47.alloc | apply IsS47.drewN | apply IsS47.drew | apply IsS47.set_0 | apply IsS47.set_1) | exact HI0.out), by repeat (first | (with_reducible first | exact HB.out | apply below_alloc | apply pw_below_drewN | apply below_drew1 | refine below_set ?_ (IsS47.ge HI0.out)) | exact HB.out), by repeat (first | (with_reducible first | exact HK.out | apply KeepBut.set_ | apply keep_drewN | apply keep_drew | apply keep_alloc) | exact HK.out)⟩
   ·replace c9 := Bool.eq_false_iff.mpr c9
    subst c9
    have H1 : (if 0 ≤ a1 then (if a1 ≤ (s0_0.size : Int) then (some (s0_0.extract 0 (a1 : Int).toNat, s0_0.extract (a1 : Int).toNat s0_0.size, s0_1)) else (none)) else (none)) = some (r1, r2, r3) := by rw [if_neg (show ¬ (false = true) by decide)] at H; exact H
    clear H
    have H := H1
    clear H1
    by_cases c11 : 0 ≤ a1
    rotate_left
    ·rw [if_neg c11] at H
     exact absurd H (by simp)
    rw [if_pos c11] at H
    have c11b0 := eq_true c11
    have c11b1 : decide (0 ≤ a1) = true := decide_eq_true c11
    clear c11
    by_cases c12 : a1 ≤ (s0_0.size : Int)
    rotate_left
    ·rw [if_neg c12] at H
     exact absurd H (by simp)
    rw [if_pos c12] at H
    have c12b0 := eq_true c12
    have c12b1 : decide (a1 ≤ (s0_0.size : Int)) = true := decide_eq_true c12
    clear c12
    have c13b0 := eq_true (of_decide_eq_true (by first | (with_reducible assumption) | assumption) : 0 ≤ a1)
    have c14b0 := eq_true (of_decide_eq_true (by first | (with_reducible assumption) | assumption) : a1 ≤ (s0_0.size : Int))
    simp only [Option.some.injEq, Prod.mk.injEq] at H
    obtain ⟨rfl, rfl, rfl⟩ := H
    obtain ⟨HGz15, hgz15⟩ := HI0.out
    have hcz15_0 := cellS47_0 HGz15
    have hcz15_1 := cellS47_1 HGz15
    have hfz15_0 := blk_frozen HGz15 0
    have hfz15_1 := blk_frozen HGz15 1
    clear HGz15 hgz15
    go_wp2
    go_ret
    exact ⟨by first | rfl | (simp [errW_none, errW_some] <;> rfl) | (simp [*, errW_none, errW_some] <;> rfl), by repeat (first | (with_reducible first | exact HI0.out | apply IsS47.alloc | apply IsS47.drewN | apply IsS47.drew | apply IsS47.set_0 | apply IsS47.set_1) | exact HI0.out), by repeat (first | (with_reducible first | exact HB.out | apply below_alloc | apply pw_below_drewN | apply below_drew1 | refine below_set ?_ (IsS47.ge HI0.out)) | exact HB.out), by repeat (first | (with_reducible first | exact HK.out | apply KeepBut.set_ | apply keep_drewN | apply keep_drew | apply keep_alloc) | exact HK.out)⟩

/-! ### octets_Reader_number: function 25 -/
def octets_Reader_number.l0 : Nat → Int → List Int → Int → Int → ByteArray → Bool → Option (Int × ByteArray × Bool)
 | 0, _, _, _, _, _, _ => none
 | k + 1, x5, x11, x12, x13, x1000, x1001 => if x13 < x12 then (if 0 ≤ x13 then (if x13 < (x11.length : Int) then (octets_Reader_number.l0 k (Go.bits .or .i64 (wrap64 (x5 * 256)) (wrap64 (rd x11 x13))) x11 x12 (wrap64 (x13 + 1)) x1000 x1001) else (none)) else (none)) else (some (x5, x1000, x1001))
def octets_Reader_number.f (k : Nat) (s0_0 : ByteArray) (s0_1 : Bool) (a1 : Int) : Option (Int × ByteArray × Bool) := (octets_Reader_Take.f k s0_0 s0_1 a1).bind fun bt130 => (if bt130.1.size ≤ 9223372036854775807 then ((some (bytesOf bt130.1 : List Int)).bind fun y133 => (octets_Reader_number.l0 k 0 y133 (y133.length : Int) 0 bt130.2.1 bt130.2.2)) else (none))
theorem octets_Reader_number.mono_l : ∀ k, (∀ y0 y1 y2 y3 y4 y5, LeO (octets_Reader_number.l0 k y0 y1 y2 y3 y4 y5) (octets_Reader_number.l0 (k + 1) y0 y1 y2 y3 y4 y5))
 | 0 => fun _ _ _ _ _ _ r h => by simp [octets_Reader_number.l0] at h
 | k + 1 => by
  have ih0 := octets_Reader_number.mono_l k
  ·intro y0 y1 y2 y3 y4 y5
   unfold octets_Reader_number.l0
   repeat' first
   | (with_reducible exact ih0 _ _ _ _ _ _)
   | (with_reducible exact octets_Reader_Take.mono _ _ _ _)
   | (with_reducible exact LeO.refl _)
   | (with_reducible exact LeO.none _)
   | (with_reducible refine LeO.ite ?_ ?_)
   | (with_reducible refine LeO.bind ?_ (fun _ => ?_))
   | exact ih0 _ _ _ _ _ _
   | exact octets_Reader_Take.mono _ _ _ _
   | exact LeO.none _
   | refine LeO.ite ?_ ?_
   | refine LeO.bind ?_ (fun _ => ?_)
theorem octets_Reader_number.mono : ∀ a0 a1 a2 k, LeO (octets_Reader_number.f k a0 a1 a2) (octets_Reader_number.f (k + 1) a0 a1 a2) := by
 intro a0 a1 a2 k
 have ih0 := octets_Reader_number.mono_l k
 unfold octets_Reader_number.f
 repeat' first
  | (with_reducible exact ih0 _ _ _ _ _ _)
  | (with_reducible exact octets_Reader_Take.mono _ _ _ _)
  | (with_reducible exact LeO.refl _)
  | (with_reducible exact LeO.none _)
  | (with_reducible refine LeO.ite ?_ ?_)
  | (with_reducible refine LeO.bind ?_ (fun _ => ?_))
  | exact ih0 _ _ _ _ _ _
  | exact octets_Reader_Take.mono _ _ _ _
  | exact LeO.none _
  | refine LeO.ite ?_ ?_
  | refine LeO.bind ?_ (fun _ => ?_)
set_option maxHeartbeats 64000000 in
set_option maxRecDepth 100000 in
theorem octets_Reader_number.calls (k : Nat) (g : Nat) (s0_0 : ByteArray) (s0_1 : Bool) (a1 : Int) (r1 : Int) (r2 : ByteArray) (r3 : Bool) (w0 w : World) (hI : IsS47 w0 w g s0_0 s0_1) (hB : Below w0.heap.size w0 w) (h : octets_Reader_number.f k s0_0 s0_1 a1 = some (r1, r2, r3)) :
 Calls Try.prog 25 #[.pointer (some ⟨g, 0, none⟩), .int .i64 a1] w fun e w' => e = .returned (.int .i64 r1) ∧ IsS47 w0 w' g r2 r3 ∧ Below w0.heap.size w0 w' ∧ KeepBut w w' g none := by
 have HI0 := Aside0.mk hI
 have HK := Aside0.mk (KeepBut.refl w g none)
 have HL := Aside0.mk hB.size
 clear hI
 have HW0 := Aside0.mk hB.size
 have HB := Aside0.mk hB
 clear hB
 have H : ((octets_Reader_Take.f k s0_0 s0_1 a1).bind fun bt130 => (if bt130.1.size ≤ 9223372036854775807 then ((some (bytesOf bt130.1 : List Int)).bind fun y133 => (octets_Reader_number.l0 k 0 y133 (y133.length : Int) 0 bt130.2.1 bt130.2.2)) else (none))) = some (r1, r2, r3) := h
 clear h
 replace H := Option.bind_eq_some_iff.mp H
 obtain ⟨⟨t130, t131, t132⟩, A30, H⟩ := H
 replace H : (if t130.size ≤ 9223372036854775807 then ((some (bytesOf t130 : List Int)).bind fun y133 => (octets_Reader_number.l0 k 0 y133 (y133.length : Int) 0 t131 t132)) else (none)) = some (r1, r2, r3) := H
 have A3 := Aside0.mk A30
 clear A30
 by_cases c4 : t130.size ≤ 9223372036854775807
 rotate_left
 ·rw [if_neg c4] at H
  exact absurd H (by simp)
 rw [if_pos c4] at H
 have c4b0 := eq_true c4
 have c4b1 : decide (t130.size ≤ 9223372036854775807) = true := decide_eq_true c4
 try have c4b2 : (9223372036854775807 < t130.size) = False := eq_false (Nat.not_lt.2 c4)
 clear c4
 obtain ⟨y133, hy133⟩ : ∃ y_ : List Int, y_ = (bytesOf t130) := ⟨_, rfl⟩
 replace H : (octets_Reader_number.l0 k 0 y133 (y133.length : Int) 0 t131 t132) = some (r1, r2, r3) := by first | (rw [hy133]; with_reducible exact H) | (have H2_ := (Option.bind_some _ _).symm.trans H; rw [hy133]; with_reducible exact H2_) | (have H2_ := (Option.bind_some _ _).symm.trans H; with_reducible exact H2_) | with_reducible exact H | (rw [hy133]; exact H) | exact H
 have Ny133 := Aside0.mk hy133
 clear hy133
 have H' := Aside0.mk H
 clear H
 go_enter Try.func25, Try.ntmps25
 go_wp2_with (first | ((with_reducible refine gate_callee (f := 21) rfl ?_); refine goesL_ (some 10) rfl rfl Try.func21 (by kernel_rfl) rfl #[.pointer (some ⟨g, 0, none⟩), .int .i64 a1] rfl (by (try simp only [List.map_toArray, List.map_cons, List.map_nil]); first | done | rfl | (simp only [List.length_drop, List.length_take]; rfl)) ?_; (with_reducible refine (octets_Reader_Take.calls k g s0_0 s0_1 a1 t130 t131 t132 w0 _ ?side1 ?side2 A3.out).mono ?_); (case side1 => repeat (first | (with_reducible first | exact HI0.out | apply IsS47.alloc | apply IsS47.drewN | apply IsS47.drew | apply IsS47.set_0 | apply IsS47.set_1) | exact HI0.out)); (case side2 => repeat (first | (with_reducible first | exact HB.out | apply below_alloc | apply pw_below_drewN | apply below_drew1 | refine below_set ?_ (IsS47.ge HI0.out)) | exact HB.out)); rintro e w5 ⟨rfl, hi, hb, hk⟩; refine ⟨_, rfl, ?_⟩; have n0_ := Aside0.mk (KeepBut.trans (by repeat (first | (with_reducible first | exact HK.out | apply KeepBut.set_ | apply keep_drewN | apply keep_drew | apply keep_alloc) | exact HK.out)) hk (.inl rfl)); have n1_ := Aside0.mk (hb); have n2_ := Aside0.mk (hi); clear HK; clear HB; clear HI0; have HK := n0_; have HB := n1_; have HI0 := n2_; clear n0_ n1_ n2_; (try clear hb); (try clear hb2); (try clear hk); (try clear hi)) | ((with_reducible refine gate_dst (N := 11) rfl ?_); refine conv_event (P := Try.prog) rfl (N := 11) rfl 9 35 5 _ rfl t130 rfl Ny133.out Try.underlying9 Try.underlying35 Try.underlying5 (of_decide_eq_true (by first | (with_reducible assumption) | assumption)) ?_; intro A136 c136 w6 hR_ hC_ hb; have n0_ := Aside0.mk (IsS47.below (by repeat (first | (with_reducible first | exact HI0.out | apply IsS47.alloc | apply IsS47.drewN | apply IsS47.drew | apply IsS47.set_0 | apply IsS47.set_1) | exact HI0.out)) hb); have n1_ := Aside0.mk (KeepBut.trans (by repeat (first | (with_reducible first | exact HK.out | apply KeepBut.set_ | apply keep_drewN | apply keep_drew | apply keep_alloc) | exact HK.out)) (KeepBut.of_below hb g none) (.inl rfl)); have n2_ := Aside0.mk (below_step (by repeat (first | (with_reducible first | exact HB.out | apply below_alloc | apply pw_below_drewN | apply below_drew1 | refine below_set ?_ (IsS47.ge HI0.out)) | exact HB.out)) hb); clear HI0; clear HK; clear HB; have HI0 := n0_; have HK := n1_; have HB := n2_; clear n0_ n1_ n2_; clear hb; have HR136 := Aside0.mk hR_; have HC136 := Aside0.mk hC_; clear hR_ hC_))
 go_loopg [5, 13] k (fun kq v5 v13 w' => ∃ (x5_1 : Int) (x13_1 : Int), v5 = .int .i64 x5_1 ∧ v13 = .int .i64 x13_1 ∧ Aside0 (octets_Reader_number.l0 kq x5_1 y133 (y133.length : Int) x13_1 t131 t132 = some (r1, r2, r3)) ∧ Aside0 (kq ≤ k) ∧ Aside0 (Kd.C (Kd.int .u8) w' A136 y133.length y133) ∧ Aside0 (IsS47 w0 w' g t131 t132) ∧ Aside0 (KeepBut w w' g none) ∧ Aside0 (Below w0.heap.size w0 w'))
 case atStart => exact ⟨(0), (0), (by first | rfl | (simp; done) | (simp [*]; done) | exact congrArg Value.bool (nonempty_l _) | (refine congrArg (Value.int _) ?_; first | omega | (unfold Go.RowKit.wrap64; omega))), (by first | rfl | (simp; done) | (simp [*]; done) | exact congrArg Value.bool (nonempty_l _) | (refine congrArg (Value.int _) ?_; first | omega | (unfold Go.RowKit.wrap64; omega))), H', ⟨Nat.le_refl _⟩, ⟨by repeat (first | (with_reducible exact HR136.out) | (with_reducible refine Kd.C_alloc ?_ _) | (with_reducible refine Kd.C_drewN ?_ _) | (with_reducible refine Kd.C_drew ?_) | exact HR136.out)⟩, ⟨by repeat (first | (with_reducible first | exact HI0.out | apply IsS47.alloc | apply IsS47.drewN | apply IsS47.drew | apply IsS47.set_0 | apply IsS47.set_1) | exact HI0.out)⟩, ⟨by repeat (first | (with_reducible first | exact HK.out | apply KeepBut.set_ | apply keep_drewN | apply keep_drew | apply keep_alloc) | exact HK.out)⟩, ⟨by repeat (first | (with_reducible first | exact HB.out | apply below_alloc | apply pw_below_drewN | apply below_drew1 | refine below_set ?_ (IsS47.ge HI0.out)) | exact HB.out)⟩⟩
 case round =>
  clear H'
  (try clear c1); (try clear c2); (try clear p2); (try clear c4); (try clear c4b0); (try clear c4b1); (try clear c4b2); (try clear p6)
  obtain ⟨x5_1, x13_1, rfl, rfl, HA, HK1, HR136, HI0, HK, HB⟩ := hrel
  cases gk with
  | zero => exact absurd HA.out (by simp [octets_Reader_number.l0])
  | succ k1 =>
   have H := HA.out
   clear HA
   simp only [octets_Reader_number.l0] at H
   by_cases c7 : x13_1 < (y133.length : Int)
   ·rw [if_pos c7] at H
    have c7b0 : decide (x13_1 < (y133.length : Int)) = true := decide_eq_true c7
    clear c7
    by_cases c8 : 0 ≤ x13_1
    rotate_left
    ·rw [if_neg c8] at H
     exact absurd H (by simp)
    rw [if_pos c8] at H
    have c8b0 : decide (0 ≤ x13_1) = true := decide_eq_true c8
    clear c8
    by_cases c9 : x13_1 < (y133.length : Int)
    rotate_left
    ·rw [if_neg c9] at H
     exact absurd H (by simp)
    rw [if_pos c9] at H
    have c9b0 : decide (x13_1 < (y133.length : Int)) = true := decide_eq_true c9
    clear c9
    have H' := Aside0.mk H
    clear H
    have p137 : 0 ≤ (x13_1 : Int) := of_decide_eq_true (by first | (with_reducible assumption) | assumption)
    have q137 : x13_1 < (y133.length : Int) := of_decide_eq_true (by first | (with_reducible assumption) | assumption)
    obtain ⟨ad137, e137, hx137_0⟩ := Kd.at_int (by repeat (first | (with_reducible exact HR136.out) | (with_reducible refine Kd.C_alloc ?_ _) | (with_reducible refine Kd.C_drewN ?_ _) | (with_reducible refine Kd.C_drew ?_) | exact HR136.out)) x13_1 p137 q137
    cases e137
    replace p137 := eq_true p137
    replace q137 := eq_true q137
    go_wp2
    go_roundg k1
    case measure => have := HK1.out; omega
    case rel => exact ⟨(Go.bits .or .i64 (wrap64 (x5_1 * 256)) (wrap64 (rd y133 x13_1))), (wrap64 (x13_1 + 1)), (by first | rfl | (simp; done) | (simp [*]; done) | exact congrArg Value.bool (nonempty_l _) | (refine congrArg (Value.int _) ?_; first | omega | (unfold Go.RowKit.wrap64; omega))), (by first | rfl | (simp; done) | (simp [*]; done) | exact congrArg Value.bool (nonempty_l _) | (refine congrArg (Value.int _) ?_; first | omega | (unfold Go.RowKit.wrap64; omega))), H', ⟨by have := HK1.out; omega⟩, ⟨by repeat (first | (with_reducible exact HR136.out) | (with_reducible refine Kd.C_alloc ?_ _) | (with_reducible refine Kd.C_drewN ?_ _) | (with_reducible refine Kd.C_drew ?_) | exact HR136.out)⟩, ⟨by repeat (first | (with_reducible first | exact HI0.out | apply IsS47.alloc | apply IsS47.drewN | apply IsS47.drew | apply IsS47.set_0 | apply IsS47.set_1) | exact HI0.out)⟩, ⟨by repeat (first | (with_reducible first | exact HK.out | apply KeepBut.set_ | apply keep_drewN | apply keep_drew | apply keep_alloc) | exact HK.out)⟩, ⟨by repeat (first | (with_reducible first | exact HB.out | apply below_alloc | apply pw_below_drewN | apply below_drew1 | refine below_set ?_ (IsS47.ge HI0.out)) | exact HB.out)⟩⟩
   ·rw [if_neg c7] at H
    have c7b0 : decide (x13_1 < (y133.length : Int)) = false := decide_eq_false c7
    clear c7
    simp only [Option.some.injEq, Prod.mk.injEq] at H
    obtain ⟨rfl, rfl, rfl⟩ := H
    go_wp2
    go_ret
    exact ⟨by first | rfl | (simp [errW_none, errW_some] <;> rfl) | (simp [*, errW_none, errW_some] <;> rfl), by repeat (first | (with_reducible first | exact HI0.out | apply IsS47.alloc | apply IsS47.drewN | apply IsS47.drew | apply IsS47.set_0 | apply IsS47.set_1) | exact HI0.out), by repeat (first | (with_reducible first | exact HB.out | apply below_alloc | apply pw_below_drewN | apply below_drew1 | refine below_set ?_ (IsS47.ge HI0.out)) | exact HB.out), by repeat (first | (with_reducible first | exact HK.out | apply KeepBut.set_ | apply keep_drewN | apply keep_drew | apply keep_alloc) | exact HK.out)⟩

/-! ### octets_Reader_Long: function 20 -/
def octets_Reader_Long.f (k : Nat) (s0_0 : ByteArray) (s0_1 : Bool) : Option (Int × ByteArray × Bool) := (octets_Reader_number.f k s0_0 s0_1 4).bind fun bt138 => (some (bt138.1, bt138.2.1, bt138.2.2))
theorem octets_Reader_Long.mono : ∀ a0 a1 k, LeO (octets_Reader_Long.f k a0 a1) (octets_Reader_Long.f (k + 1) a0 a1) := by
 intro a0 a1 k
 unfold octets_Reader_Long.f
 repeat' first
  | (with_reducible exact octets_Reader_number.mono _ _ _ _)
  | (with_reducible exact LeO.refl _)
  | (with_reducible exact LeO.none _)
  | (with_reducible refine LeO.ite ?_ ?_)
  | (with_reducible refine LeO.bind ?_ (fun _ => ?_))
  | exact octets_Reader_number.mono _ _ _ _
  | exact LeO.none _
  | refine LeO.ite ?_ ?_
  | refine LeO.bind ?_ (fun _ => ?_)
set_option maxHeartbeats 64000000 in
set_option maxRecDepth 100000 in
theorem octets_Reader_Long.calls (k : Nat) (g : Nat) (s0_0 : ByteArray) (s0_1 : Bool) (r1 : Int) (r2 : ByteArray) (r3 : Bool) (w0 w : World) (hI : IsS47 w0 w g s0_0 s0_1) (hB : Below w0.heap.size w0 w) (h : octets_Reader_Long.f k s0_0 s0_1 = some (r1, r2, r3)) :
 Calls Try.prog 20 #[.pointer (some ⟨g, 0, none⟩)] w fun e w' => e = .returned (.int .i64 r1) ∧ IsS47 w0 w' g r2 r3 ∧ Below w0.heap.size w0 w' ∧ KeepBut w w' g none := by
 have HI0 := Aside0.mk hI
 have HK := Aside0.mk (KeepBut.refl w g none)
 have HL := Aside0.mk hB.size
 clear hI
 have HW0 := Aside0.mk hB.size
 have HB := Aside0.mk hB
 clear hB
 have H : ((octets_Reader_number.f k s0_0 s0_1 4).bind fun bt138 => (some (bt138.1, bt138.2.1, bt138.2.2))) = some (r1, r2, r3) := h
 clear h
 replace H := Option.bind_eq_some_iff.mp H
 obtain ⟨⟨t138, t139, t140⟩, A20, H⟩ := H
 replace H : (some (t138, t139, t140)) = some (r1, r2, r3) := H
 have A2 := Aside0.mk A20
 clear A20
 simp only [Option.some.injEq, Prod.mk.injEq] at H
 obtain ⟨rfl, rfl, rfl⟩ := H
 go_enter Try.func20, Try.ntmps20
 go_wp2_with (first | ((with_reducible refine gate_callee (f := 25) rfl ?_); refine goesL_ (some 4) rfl rfl Try.func25 (by kernel_rfl) rfl #[.pointer (some ⟨g, 0, none⟩), .int .i64 4] rfl (by (try simp only [List.map_toArray, List.map_cons, List.map_nil]); first | done | rfl | (simp only [List.length_drop, List.length_take]; rfl)) ?_; (with_reducible refine (octets_Reader_number.calls k g s0_0 s0_1 4 t138 t139 t140 w0 _ ?side1 ?side2 A2.out).mono ?_); (case side1 => repeat (first | (with_reducible first | exact HI0.out | apply IsS47.alloc | apply IsS47.drewN | apply IsS47.drew | apply IsS47.set_0 | apply IsS47.set_1) | exact HI0.out)); (case side2 => repeat (first | (with_reducible first | exact HB.out | apply below_alloc | apply pw_below_drewN | apply below_drew1 | refine below_set ?_ (IsS47.ge HI0.out)) | exact HB.out)); rintro e w3 ⟨rfl, hi, hb, hk⟩; refine ⟨_, rfl, ?_⟩; have n0_ := Aside0.mk (KeepBut.trans (by repeat (first | (with_reducible first | exact HK.out | apply KeepBut.set_ | apply keep_drewN | apply keep_drew | apply keep_alloc) | exact HK.out)) hk (.inl rfl)); have n1_ := Aside0.mk (hb); have n2_ := Aside0.mk (hi); clear HK; clear HB; clear HI0; have HK := n0_; have HB := n1_; have HI0 := n2_; clear n0_ n1_ n2_; (try clear hb); (try clear hb2); (try clear hk); (try clear hi)))
 go_ret
 exact ⟨by first | rfl | (simp [errW_none, errW_some] <;> rfl) | (simp [*, errW_none, errW_some] <;> rfl), by repeat (first | (with_reducible first | exact HI0.out | apply IsS47.alloc | apply IsS47.drewN | apply IsS47.drew | apply IsS47.set_0 | apply IsS47.set_1) | exact HI0.out), by repeat (first | (with_reducible first | exact HB.out | apply below_alloc | apply pw_below_drewN | apply below_drew1 | refine below_set ?_ (IsS47.ge HI0.out)) | exact HB.out), by repeat (first | (with_reducible first | exact HK.out | apply KeepBut.set_ | apply keep_drewN | apply keep_drew | apply keep_alloc) | exact HK.out)⟩

/-! ### octets_Reader_Good: function 22 -/
def octets_Reader_Good.f (s0_0 : ByteArray) (s0_1 : Bool) : Option (Bool × ByteArray × Bool) := some (!s0_1, s0_0, s0_1)
set_option maxHeartbeats 64000000 in
set_option maxRecDepth 100000 in
theorem octets_Reader_Good.calls (g : Nat) (s0_0 : ByteArray) (s0_1 : Bool) (r1 : Bool) (r2 : ByteArray) (r3 : Bool) (w0 w : World) (hI : IsS47 w0 w g s0_0 s0_1) (hB : Below w0.heap.size w0 w) (h : octets_Reader_Good.f s0_0 s0_1 = some (r1, r2, r3)) :
 Calls Try.prog 22 #[.pointer (some ⟨g, 0, none⟩)] w fun e w' => e = .returned (.bool r1) ∧ IsS47 w0 w' g r2 r3 ∧ Below w0.heap.size w0 w' ∧ KeepBut w w' g none := by
 have HI0 := Aside0.mk hI
 have HK := Aside0.mk (KeepBut.refl w g none)
 have HL := Aside0.mk hB.size
 clear hI
 have HW0 := Aside0.mk hB.size
 have HB := Aside0.mk hB
 clear hB
 have H : (some (!s0_1, s0_0, s0_1)) = some (r1, r2, r3) := h
 clear h
 simp only [Option.some.injEq, Prod.mk.injEq] at H
 obtain ⟨rfl, rfl, rfl⟩ := H
 obtain ⟨HGz2, hgz2⟩ := HI0.out
 have hcz2_0 := cellS47_0 HGz2
 have hcz2_1 := cellS47_1 HGz2
 have hfz2_0 := blk_frozen HGz2 0
 have hfz2_1 := blk_frozen HGz2 1
 clear HGz2 hgz2
 go_enter Try.func22, Try.ntmps22
 go_wp2
 go_ret
 exact ⟨by first | rfl | (simp [errW_none, errW_some] <;> rfl) | (simp [*, errW_none, errW_some] <;> rfl), by repeat (first | (with_reducible first | exact HI0.out | apply IsS47.alloc | apply IsS47.drewN | apply IsS47.drew | apply IsS47.set_0 | apply IsS47.set_1) | exact HI0.out), by repeat (first | (with_reducible first | exact HB.out | apply below_alloc | apply pw_below_drewN | apply below_drew1 | refine below_set ?_ (IsS47.ge HI0.out)) | exact HB.out), by repeat (first | (with_reducible first | exact HK.out | apply KeepBut.set_ | apply keep_drewN | apply keep_drew | apply keep_alloc) | exact HK.out)⟩

/-! ### crc_Open: function 15 -/
def crc_Open.f (k : Nat) (a0 : ByteArray) : Option (ByteArray × Int × Bool) := (octets_Read.f a0).bind fun bt141 => ((octets_Reader_Long.f k bt141.1 bt141.2).bind fun bt144 => ((octets_Reader_Long.f k bt144.2.1 bt144.2.2).bind fun bt147 => (if bt144.1 > 65535 then (some ((⟨#[]⟩ : ByteArray), 0, false)) else ((octets_Reader_Take.f k bt147.2.1 bt147.2.2 bt144.1).bind fun bt150 => ((octets_Reader_Good.f bt150.2.1 bt150.2.2).bind fun bt153 => (if bt153.1 = true then ((crc_Sum.f k bt150.1).bind fun t156 => (if (wrap64 (t156)) = bt147.1 then (some (bt150.1, wrap64 (8 + bt144.1), true)) else (some ((⟨#[]⟩ : ByteArray), 0, false)))) else (some ((⟨#[]⟩ : ByteArray), 0, false))))))))
theorem crc_Open.mono : ∀ a0 k, LeO (crc_Open.f k a0) (crc_Open.f (k + 1) a0) := by
 intro a0 k
 unfold crc_Open.f
 repeat' first
  | (with_reducible exact crc_Sum.mono _ _)
  | (with_reducible exact octets_Reader_Long.mono _ _ _)
  | (with_reducible exact octets_Reader_Take.mono _ _ _ _)
  | (with_reducible exact LeO.refl _)
  | (with_reducible exact LeO.none _)
  | (with_reducible refine LeO.ite ?_ ?_)
  | (with_reducible refine LeO.bind ?_ (fun _ => ?_))
  | exact crc_Sum.mono _ _
  | exact octets_Reader_Long.mono _ _ _
  | exact octets_Reader_Take.mono _ _ _ _
  | exact LeO.none _
  | refine LeO.ite ?_ ?_
  | refine LeO.bind ?_ (fun _ => ?_)
set_option maxHeartbeats 64000000 in
set_option maxRecDepth 100000 in
theorem crc_Open.calls (k : Nat) (a0 : ByteArray) (r1 : ByteArray) (r2 : Int) (r3 : Bool) (w : World) (h : crc_Open.f k a0 = some (r1, r2, r3)) :
 Calls Try.prog 15 #[.string a0] w fun e w' => e = .returned (.tuple #[.string r1, .int .i64 r2, .bool r3]) ∧ Below w.heap.size w w' := by
 have HB := Aside0.mk (Below.refl w.heap.size w)
 have H : ((octets_Read.f a0).bind fun bt141 => ((octets_Reader_Long.f k bt141.1 bt141.2).bind fun bt144 => ((octets_Reader_Long.f k bt144.2.1 bt144.2.2).bind fun bt147 => (if bt144.1 > 65535 then (some ((⟨#[]⟩ : ByteArray), 0, false)) else ((octets_Reader_Take.f k bt147.2.1 bt147.2.2 bt144.1).bind fun bt150 => ((octets_Reader_Good.f bt150.2.1 bt150.2.2).bind fun bt153 => (if bt153.1 = true then ((crc_Sum.f k bt150.1).bind fun t156 => (if (wrap64 (t156)) = bt147.1 then (some (bt150.1, wrap64 (8 + bt144.1), true)) else (some ((⟨#[]⟩ : ByteArray), 0, false)))) else (some ((⟨#[]⟩ : ByteArray), 0, false))))))))) = some (r1, r2, r3) := h
 clear h
 replace H := Option.bind_eq_some_iff.mp H
 obtain ⟨⟨t141, t142⟩, A20, H⟩ := H
 replace H : ((octets_Reader_Long.f k t141 t142).bind fun bt144 => ((octets_Reader_Long.f k bt144.2.1 bt144.2.2).bind fun bt147 => (if bt144.1 > 65535 then (some ((⟨#[]⟩ : ByteArray), 0, false)) else ((octets_Reader_Take.f k bt147.2.1 bt147.2.2 bt144.1).bind fun bt150 => ((octets_Reader_Good.f bt150.2.1 bt150.2.2).bind fun bt153 => (if bt153.1 = true then ((crc_Sum.f k bt150.1).bind fun t156 => (if (wrap64 (t156)) = bt147.1 then (some (bt150.1, wrap64 (8 + bt144.1), true)) else (some ((⟨#[]⟩ : ByteArray), 0, false)))) else (some ((⟨#[]⟩ : ByteArray), 0, false)))))))) = some (r1, r2, r3) := H
 have A2 := Aside0.mk A20
 clear A20
 replace H := Option.bind_eq_some_iff.mp H
 obtain ⟨⟨t144, t145, t146⟩, A30, H⟩ := H
 replace H : ((octets_Reader_Long.f k t145 t146).bind fun bt147 => (if t144 > 65535 then (some ((⟨#[]⟩ : ByteArray), 0, false)) else ((octets_Reader_Take.f k bt147.2.1 bt147.2.2 t144).bind fun bt150 => ((octets_Reader_Good.f bt150.2.1 bt150.2.2).bind fun bt153 => (if bt153.1 = true then ((crc_Sum.f k bt150.1).bind fun t156 => (if (wrap64 (t156)) = bt147.1 then (some (bt150.1, wrap64 (8 + t144), true)) else (some ((⟨#[]⟩ : ByteArray), 0, false)))) else (some ((⟨#[]⟩ : ByteArray), 0, false))))))) = some (r1, r2, r3) := H
 have A3 := Aside0.mk A30
 clear A30
 replace H := Option.bind_eq_some_iff.mp H
 obtain ⟨⟨t147, t148, t149⟩, A40, H⟩ := H
 replace H : (if t144 > 65535 then (some ((⟨#[]⟩ : ByteArray), 0, false)) else ((octets_Reader_Take.f k t148 t149 t144).bind fun bt150 => ((octets_Reader_Good.f bt150.2.1 bt150.2.2).bind fun bt153 => (if bt153.1 = true then ((crc_Sum.f k bt150.1).bind fun t156 => (if (wrap64 (t156)) = t147 then (some (bt150.1, wrap64 (8 + t144), true)) else (some ((⟨#[]⟩ : ByteArray), 0, false)))) else (some ((⟨#[]⟩ : ByteArray), 0, false)))))) = some (r1, r2, r3) := H
 have A4 := Aside0.mk A40
 clear A40
 by_cases c5 : t144 > 65535
 ·rw [if_pos c5] at H
  have c5b0 : decide (65535 < t144) = true := decide_eq_true c5
  clear c5
  simp only [Option.some.injEq, Prod.mk.injEq] at H
  obtain ⟨rfl, rfl, rfl⟩ := H
  go_enter Try.func15, Try.ntmps15
  go_wp2_with (first | ((with_reducible refine gate_callee (f := 19) rfl ?_); refine goesL_ (some 10) rfl rfl Try.func19 (by kernel_rfl) rfl #[.string a0] rfl (by (try simp only [List.map_toArray, List.map_cons, List.map_nil]); first | done | rfl | (simp only [List.length_drop, List.length_take]; rfl)) ?_; (with_reducible refine (octets_Read.calls a0 t141 t142 w _ ?side1 A2.out).mono ?_); (case side1 => repeat (first | (with_reducible first | exact HB.out | apply below_alloc | apply pw_below_drewN | apply below_drew1) | exact HB.out)); rintro e w6 ⟨g143, rfl, hi, hb, hb2⟩; refine ⟨_, rfl, ?_⟩; have n0_ := Aside0.mk (hb); have n1_ := Aside0.mk (hi); clear HB; have HB := n0_; have HI143 := n1_; clear n0_ n1_; (try clear hb); (try clear hb2); (try clear hk); (try clear hi)) | ((with_reducible refine gate_callee (f := 20) rfl ?_); refine goesL_ (some 12) rfl rfl Try.func20 (by kernel_rfl) rfl #[.pointer (some ⟨g143, 0, none⟩)] rfl (by (try simp only [List.map_toArray, List.map_cons, List.map_nil]); first | done | rfl | (simp only [List.length_drop, List.length_take]; rfl)) ?_; (with_reducible refine (octets_Reader_Long.calls k g143 t141 t142 t144 t145 t146 w _ ?side1 ?side2 A3.out).mono ?_); (case side1 => repeat (first | (with_reducible first | exact HI143.out | apply IsS47.alloc | apply IsS47.drewN | apply IsS47.drew | apply IsS47.set_0 | apply IsS47.set_1) | exact HI143.out)); (case side2 => repeat (first | (with_reducible first | exact HB.out | apply below_alloc | apply pw_below_drewN | apply below_drew1 | refine below_set ?_ (IsS47.ge HI143.out)) | exact HB.out)); rintro e w7 ⟨rfl, hi, hb, hk⟩; refine ⟨_, rfl, ?_⟩; have n0_ := Aside0.mk (hb); have n1_ := Aside0.mk (hi); clear HB; clear HI143; have HB := n0_; have HI143 := n1_; clear n0_ n1_; (try clear hb); (try clear hb2); (try clear hk); (try clear hi)) | ((with_reducible refine gate_callee (f := 20) rfl ?_); refine goesL_ (some 14) rfl rfl Try.func20 (by kernel_rfl) rfl #[.pointer (some ⟨g143, 0, none⟩)] rfl (by (try simp only [List.map_toArray, List.map_cons, List.map_nil]); first | done | rfl | (simp only [List.length_drop, List.length_take]; rfl)) ?_; (with_reducible refine (octets_Reader_Long.calls k g143 t145 t146 t147 t148 t149 w _ ?side1 ?side2 A4.out).mono ?_); (case side1 => repeat (first | (with_reducible first | exact HI143.out | apply IsS47.alloc | apply IsS47.drewN | apply IsS47.drew | apply IsS47.set_0 | apply IsS47.set_1) | exact HI143.out)); (case side2 => repeat (first | (with_reducible first | exact HB.out | apply below_alloc | apply pw_below_drewN | apply below_drew1 | refine below_set ?_ (IsS47.ge HI143.out)) | exact HB.out)); rintro e w8 ⟨rfl, hi, hb, hk⟩; refine ⟨_, rfl, ?_⟩; have n0_ := Aside0.mk (hb); have n1_ := Aside0.mk (hi); clear HB; clear HI143; have HB := n0_; have HI143 := n1_; clear n0_ n1_; (try clear hb); (try clear hb2); (try clear hk); (try clear hi)))
  go_ret3
  exact ⟨by first | rfl | (simp [errW_none, errW_some] <;> rfl) | (simp [*, errW_none, errW_some] <;> rfl), by repeat (first | (with_reducible first | exact HB.out | apply below_alloc | apply pw_below_drewN | apply below_drew1 | refine below_set ?_ (IsS47.ge HI143.out)) | exact HB.out)⟩
 ·rw [if_neg c5] at H
  have c5b0 : decide (65535 < t144) = false := decide_eq_false c5
  clear c5
  replace H := Option.bind_eq_some_iff.mp H
  obtain ⟨⟨t150, t151, t152⟩, A90, H⟩ := H
  replace H : ((octets_Reader_Good.f t151 t152).bind fun bt153 => (if bt153.1 = true then ((crc_Sum.f k t150).bind fun t156 => (if (wrap64 (t156)) = t147 then (some (t150, wrap64 (8 + t144), true)) else (some ((⟨#[]⟩ : ByteArray), 0, false)))) else (some ((⟨#[]⟩ : ByteArray), 0, false)))) = some (r1, r2, r3) := H
  have A9 := Aside0.mk A90
  clear A90
  replace H := Option.bind_eq_some_iff.mp H
  obtain ⟨⟨t153, t154, t155⟩, A100, H⟩ := H
  replace H : (if t153 = true then ((crc_Sum.f k t150).bind fun t156 => (if (wrap64 (t156)) = t147 then (some (t150, wrap64 (8 + t144), true)) else (some ((⟨#[]⟩ : ByteArray), 0, false)))) else (some ((⟨#[]⟩ : ByteArray), 0, false))) = some (r1, r2, r3) := H
  have A10 := Aside0.mk A100
  clear A100
  by_cases c11 : t153 = true
  ·subst c11
   have H1 : ((crc_Sum.f k t150).bind fun t156 => (if (wrap64 (t156)) = t147 then (some (t150, wrap64 (8 + t144), true)) else (some ((⟨#[]⟩ : ByteArray), 0, false)))) = some (r1, r2, r3) := by rw [if_pos rfl] at H; exact H
   clear H
   have H := H1
   clear H1
   replace H := Option.bind_eq_some_iff.mp H
   obtain ⟨t156, A120, H⟩ := H
   replace H : (if (wrap64 (t156)) = t147 then (some (t150, wrap64 (8 + t144), true)) else (some ((⟨#[]⟩ : ByteArray), 0, false))) = some (r1, r2, r3) := H
   have A12 := Aside0.mk A120
   clear A120
   by_cases c13 : (wrap64 (t156)) = t147
   ·rw [if_pos c13] at H
    have c13b0 : ((wrap64 (t156)) == t147) = true := beq_iff_eq.mpr c13
    have c13b1 : ((wrap64 (t156)) != t147) = false := bne_eq_false_iff_eq.mpr c13
    clear c13
    simp only [Option.some.injEq, Prod.mk.injEq] at H
    obtain ⟨rfl, rfl, rfl⟩ := H
    go_enter Try.func15, Try.ntmps15
    go_wp2_with (first | ((with_reducible refine gate_callee (f := 19) rfl ?_); refine goesL_ (some 10) rfl rfl Try.func19 (by kernel_rfl) rfl #[.string a0] rfl (by (try simp only [List.map_toArray, List.map_cons, List.map_nil]); first | done | rfl | (simp only [List.length_drop, List.length_take]; rfl)) ?_; (with_reducible refine (octets_Read.calls a0 t141 t142 w _ ?side1 A2.out).mono ?_); (case side1 => repeat (first | (with_reducible first | exact HB.out | apply below_alloc | apply pw_below_drewN | apply below_drew1) | exact HB.out)); rintro e w14 ⟨g143, rfl, hi, hb, hb2⟩; refine ⟨_, rfl, ?_⟩; have n0_ := Aside0.mk (hb); have n1_ := Aside0.mk (hi); clear HB; have HB := n0_; have HI143 := n1_; clear n0_ n1_; (try clear hb); (try clear hb2); (try clear hk); (try clear hi)) | ((with_reducible refine gate_callee (f := 20) rfl ?_); refine goesL_ (some 12) rfl rfl Try.func20 (by kernel_rfl) rfl #[.pointer (some ⟨g143, 0, none⟩)] rfl (by (try simp only [List.map_toArray, List.map_cons, List.map_nil]); first | done | rfl | (simp only [List.length_drop, List.length_take]; rfl)) ?_; (with_reducible refine (octets_Reader_Long.calls k g143 t141 t142 t144 t145 t146 w _ ?side1 ?side2 A3.out).mono ?_); (case side1 => repeat (first | (with_reducible first | exact HI143.out | apply IsS47.alloc | apply IsS47.drewN | apply IsS47.drew | apply IsS47.set_0 | apply IsS47.set_1) | exact HI143.out)); (case side2 => repeat (first | (with_reducible first | exact HB.out | apply below_alloc | apply pw_below_drewN | apply below_drew1 | refine below_set ?_ (IsS47.ge HI143.out)) | exact HB.out)); rintro e w15 ⟨rfl, hi, hb, hk⟩; refine ⟨_, rfl, ?_⟩; have n0_ := Aside0.mk (hb); have n1_ := Aside0.mk (hi); clear HB; clear HI143; have HB := n0_; have HI143 := n1_; clear n0_ n1_; (try clear hb); (try clear hb2); (try clear hk); (try clear hi)) | ((with_reducible refine gate_callee (f := 20) rfl ?_); refine goesL_ (some 14) rfl rfl Try.func20 (by kernel_rfl) rfl #[.pointer (some ⟨g143, 0, none⟩)] rfl (by (try simp only [List.map_toArray, List.map_cons, List.map_nil]); first | done | rfl | (simp only [List.length_drop, List.length_take]; rfl)) ?_; (with_reducible refine (octets_Reader_Long.calls k g143 t145 t146 t147 t148 t149 w _ ?side1 ?side2 A4.out).mono ?_); (case side1 => repeat (first | (with_reducible first | exact HI143.out | apply IsS47.alloc | apply IsS47.drewN | apply IsS47.drew | apply IsS47.set_0 | apply IsS47.set_1) | exact HI143.out)); (case side2 => repeat (first | (with_reducible first | exact HB.out | apply below_alloc | apply pw_below_drewN | apply below_drew1 | refine below_set ?_ (IsS47.ge HI143.out)) | exact HB.out)); rintro e w16 ⟨rfl, hi, hb, hk⟩; refine ⟨_, rfl, ?_⟩; have n0_ := Aside0.mk (hb); have n1_ := Aside0.mk (hi); clear HB; clear HI143; have HB := n0_; have HI143 := n1_; clear n0_ n1_; (try clear hb); (try clear hb2); (try clear hk); (try clear hi)) | ((with_reducible refine gate_callee (f := 21) rfl ?_); refine goesL_ (some 19) rfl rfl Try.func21 (by kernel_rfl) rfl #[.pointer (some ⟨g143, 0, none⟩), .int .i64 t144] rfl (by (try simp only [List.map_toArray, List.map_cons, List.map_nil]); first | done | rfl | (simp only [List.length_drop, List.length_take]; rfl)) ?_; (with_reducible refine (octets_Reader_Take.calls k g143 t148 t149 t144 t150 t151 t152 w _ ?side1 ?side2 A9.out).mono ?_); (case side1 => repeat (first | (with_reducible first | exact HI143.out | apply IsS47.alloc | apply IsS47.drewN | apply IsS47.drew | apply IsS47.set_0 | apply IsS47.set_1) | exact HI143.out)); (case side2 => repeat (first | (with_reducible first | exact HB.out | apply below_alloc | apply pw_below_drewN | apply below_drew1 | refine below_set ?_ (IsS47.ge HI143.out)) | exact HB.out)); rintro e w17 ⟨rfl, hi, hb, hk⟩; refine ⟨_, rfl, ?_⟩; have n0_ := Aside0.mk (hb); have n1_ := Aside0.mk (hi); clear HB; clear HI143; have HB := n0_; have HI143 := n1_; clear n0_ n1_; (try clear hb); (try clear hb2); (try clear hk); (try clear hi)) | ((with_reducible refine gate_callee (f := 22) rfl ?_); refine goesL_ (some 21) rfl rfl Try.func22 (by kernel_rfl) rfl #[.pointer (some ⟨g143, 0, none⟩)] rfl (by (try simp only [List.map_toArray, List.map_cons, List.map_nil]); first | done | rfl | (simp only [List.length_drop, List.length_take]; rfl)) ?_; (with_reducible refine (octets_Reader_Good.calls g143 t151 t152 true t154 t155 w _ ?side1 ?side2 A10.out).mono ?_); (case side1 => repeat (first | (with_reducible first | exact HI143.out | apply IsS47.alloc | apply IsS47.drewN | apply IsS47.drew | apply IsS47.set_0 | apply IsS47.set_1) | exact HI143.out)); (case side2 => repeat (first | (with_reducible first | exact HB.out | apply below_alloc | apply pw_below_drewN | apply below_drew1 | refine below_set ?_ (IsS47.ge HI143.out)) | exact HB.out)); rintro e w18 ⟨rfl, hi, hb, hk⟩; refine ⟨_, rfl, ?_⟩; have n0_ := Aside0.mk (hb); have n1_ := Aside0.mk (hi); clear HB; clear HI143; have HB := n0_; have HI143 := n1_; clear n0_ n1_; (try clear hb); (try clear hb2); (try clear hk); (try clear hi)) | (go_at_call 9; (with_reducible refine (crc_Sum.calls k t150 t156 _ A12.out).mono ?_); rintro e w19 ⟨rfl, hb⟩; have n0_ := Aside0.mk (IsS47.below (by repeat (first | (with_reducible first | exact HI143.out | apply IsS47.alloc | apply IsS47.drewN | apply IsS47.drew | apply IsS47.set_0 | apply IsS47.set_1) | exact HI143.out)) hb); have n1_ := Aside0.mk (below_step (by repeat (first | (with_reducible first | exact HB.out | apply below_alloc | apply pw_below_drewN | apply below_drew1 | refine below_set ?_ (IsS47.ge HI143.out)) | exact HB.out)) hb); clear HI143; clear HB; have HI143 := n0_; have HB := n1_; clear n0_ n1_; (try clear hb); (try clear hb2); (try clear hk); (try clear hi)))
    go_ret3
    exact ⟨by first | rfl | (simp [errW_none, errW_some] <;> rfl) | (simp [*, errW_none, errW_some] <;> rfl), by repeat (first | (with_reducible first | exact HB.out | apply below_alloc | apply pw_below_drewN | apply below_drew1 | refine below_set ?_ (IsS47.ge HI143.out)) | exact HB.out)⟩
   ·rw [if_neg c13] at H
    have c13b0 : ((wrap64 (t156)) == t147) = false := beq_eq_false_iff_ne.mpr c13
    have c13b1 : ((wrap64 (t156)) != t147) = true := bne_iff_ne.mpr c13
    simp only [Option.some.injEq, Prod.mk.injEq] at H
    obtain ⟨rfl, rfl, rfl⟩ := H
    go_enter Try.func15, Try.ntmps15
    go_wp2_with (first | ((with_reducible refine gate_callee (f := 19) rfl ?_); refine goesL_ (some 10) rfl rfl Try.func19 (by kernel_rfl) rfl #[.string a0] rfl (by (try simp only [List.map_toArray, List.map_cons, List.map_nil]); first | done | rfl | (simp only [List.length_drop, List.length_take]; rfl)) ?_; (with_reducible refine (octets_Read.calls a0 t141 t142 w _ ?side1 A2.out).mono ?_); (case side1 => repeat (first | (with_reducible first | exact HB.out | apply below_alloc | apply pw_below_drewN | apply below_drew1) | exact HB.out)); rintro e w20 ⟨g143, rfl, hi, hb, hb2⟩; refine ⟨_, rfl, ?_⟩; have n0_ := Aside0.mk (hb); have n1_ := Aside0.mk (hi); clear HB; have HB := n0_; have HI143 := n1_; clear n0_ n1_; (try clear hb); (try clear hb2); (try clear hk); (try clear hi)) | ((with_reducible refine gate_callee (f := 20) rfl ?_); refine goesL_ (some 12) rfl rfl Try.func20 (by kernel_rfl) rfl #[.pointer (some ⟨g143, 0, none⟩)] rfl (by (try simp only [List.map_toArray, List.map_cons, List.map_nil]); first | done | rfl | (simp only [List.length_drop, List.length_take]; rfl)) ?_; (with_reducible refine (octets_Reader_Long.calls k g143 t141 t142 t144 t145 t146 w _ ?side1 ?side2 A3.out).mono ?_); (case side1 => repeat (first | (with_reducible first | exact HI143.out | apply IsS47.alloc | apply IsS47.drewN | apply IsS47.drew | apply IsS47.set_0 | apply IsS47.set_1) | exact HI143.out)); (case side2 => repeat (first | (with_reducible first | exact HB.out | apply below_alloc | apply pw_below_drewN | apply below_drew1 | refine below_set ?_ (IsS47.ge HI143.out)) | exact HB.out)); rintro e w21 ⟨rfl, hi, hb, hk⟩; refine ⟨_, rfl, ?_⟩; have n0_ := Aside0.mk (hb); have n1_ := Aside0.mk (hi); clear HB; clear HI143; have HB := n0_; have HI143 := n1_; clear n0_ n1_; (try clear hb); (try clear hb2); (try clear hk); (try clear hi)) | ((with_reducible refine gate_callee (f := 20) rfl ?_); refine goesL_ (some 14) rfl rfl Try.func20 (by kernel_rfl) rfl #[.pointer (some ⟨g143, 0, none⟩)] rfl (by (try simp only [List.map_toArray, List.map_cons, List.map_nil]); first | done | rfl | (simp only [List.length_drop, List.length_take]; rfl)) ?_; (with_reducible refine (octets_Reader_Long.calls k g143 t145 t146 t147 t148 t149 w _ ?side1 ?side2 A4.out).mono ?_); (case side1 => repeat (first | (with_reducible first | exact HI143.out | apply IsS47.alloc | apply IsS47.drewN | apply IsS47.drew | apply IsS47.set_0 | apply IsS47.set_1) | exact HI143.out)); (case side2 => repeat (first | (with_reducible first | exact HB.out | apply below_alloc | apply pw_below_drewN | apply below_drew1 | refine below_set ?_ (IsS47.ge HI143.out)) | exact HB.out)); rintro e w22 ⟨rfl, hi, hb, hk⟩; refine ⟨_, rfl, ?_⟩; have n0_ := Aside0.mk (hb); have n1_ := Aside0.mk (hi); clear HB; clear HI143; have HB := n0_; have HI143 := n1_; clear n0_ n1_; (try clear hb); (try clear hb2); (try clear hk); (try clear hi)) | ((with_reducible refine gate_callee (f := 21) rfl ?_); refine goesL_ (some 19) rfl rfl Try.func21 (by kernel_rfl) rfl #[.pointer (some ⟨g143, 0, none⟩), .int .i64 t144] rfl (by (try simp only [List.map_toArray, List.map_cons, List.map_nil]); first | done | rfl | (simp only [List.length_drop, List.length_take]; rfl)) ?_; (with_reducible refine (octets_Reader_Take.calls k g143 t148 t149 t144 t150 t151 t152 w _ ?side1 ?side2 A9.out).mono ?_); (case side1 => repeat (first | (with_reducible first | exact HI143.out | apply IsS47.alloc | apply IsS47.drewN | apply IsS47.drew | apply IsS47.set_0 | apply IsS47.set_1) | exact HI143.out)); (case side2 => repeat (first | (with_reducible first | exact HB.out | apply below_alloc | apply pw_below_drewN | apply below_drew1 | refine below_set ?_ (IsS47.ge HI143.out)) | exact HB.out)); rintro e w23 ⟨rfl, hi, hb, hk⟩; refine ⟨_, rfl, ?_⟩; have n0_ := Aside0.mk (hb); have n1_ := Aside0.mk (hi); clear HB; clear HI143; have HB := n0_; have HI143 := n1_; clear n0_ n1_; (try clear hb); (try clear hb2); (try clear hk); (try clear hi)) | ((with_reducible refine gate_callee (f := 22) rfl ?_); refine goesL_ (some 21) rfl rfl Try.func22 (by kernel_rfl) rfl #[.pointer (some ⟨g143, 0, none⟩)] rfl (by (try simp only [List.map_toArray, List.map_cons, List.map_nil]); first | done | rfl | (simp only [List.length_drop, List.length_take]; rfl)) ?_; (with_reducible refine (octets_Reader_Good.calls g143 t151 t152 true t154 t155 w _ ?side1 ?side2 A10.out).mono ?_); (case side1 => repeat (first | (with_reducible first | exact HI143.out | apply IsS47.alloc | apply IsS47.drewN | apply IsS47.drew | apply IsS47.set_0 | apply IsS47.set_1) | exact HI143.out)); (case side2 => repeat (first | (with_reducible first | exact HB.out | apply below_alloc | apply pw_below_drewN | apply below_drew1 | refine below_set ?_ (IsS47.ge HI143.out)) | exact HB.out)); rintro e w24 ⟨rfl, hi, hb, hk⟩; refine ⟨_, rfl, ?_⟩; have n0_ := Aside0.mk (hb); have n1_ := Aside0.mk (hi); clear HB; clear HI143; have HB := n0_; have HI143 := n1_; clear n0_ n1_; (try clear hb); (try clear hb2); (try clear hk); (try clear hi)) | (go_at_call 9; (with_reducible refine (crc_Sum.calls k t150 t156 _ A12.out).mono ?_); rintro e w25 ⟨rfl, hb⟩; have n0_ := Aside0.mk (IsS47.below (by repeat (first | (with_reducible first | exact HI143.out | apply IsS47.alloc | apply IsS47.drewN | apply IsS47.drew | apply IsS47.set_0 | apply IsS47.set_1) | exact HI143.out)) hb); have n1_ := Aside0.mk (below_step (by repeat (first | (with_reducible first | exact HB.out | apply below_alloc | apply pw_below_drewN | apply below_drew1 | refine below_set ?_ (IsS47.ge HI143.out)) | exact HB.out)) hb); clear HI143; clear HB; have HI143 := n0_; have HB := n1_; clear n0_ n1_; (try clear hb); (try clear hb2); (try clear hk); (try clear hi)))
    go_ret3
    exact ⟨by first | rfl | (simp [errW_none, errW_some] <;> rfl) | (simp [*, errW_none, errW_some] <;> rfl), by repeat (first | (with_reducible first | exact HB.out | apply below_alloc | apply pw_below_drewN | apply below_drew1 | refine below_set ?_ (IsS47.ge HI143.out)) | exact HB.out)⟩
  ·replace c11 := Bool.eq_false_iff.mpr c11
   subst c11
   have H1 : (some ((⟨#[]⟩ : ByteArray), 0, false)) = some (r1, r2, r3) := by rw [if_neg (show ¬ (false = true) by decide)] at H; exact H
   clear H
   have H := H1
   clear H1
   simp only [Option.some.injEq, Prod.mk.injEq] at H
   obtain ⟨rfl, rfl, rfl⟩ := H
   go_enter Try.func15, Try.ntmps15
   go_wp2_with (first | ((with_reducible refine gate_callee (f := 19) rfl ?_); refine goesL_ (some 10) rfl rfl Try.func19 (by kernel_rfl) rfl #[.string a0] rfl (by (try simp only [List.map_toArray, List.map_cons, List.map_nil]); first | done | rfl | (simp only [List.length_drop, List.length_take]; rfl)) ?_; (with_reducible refine (octets_Read.calls a0 t141 t142 w _ ?side1 A2.out).mono ?_); (case side1 => repeat (first | (with_reducible first | exact HB.out | apply below_alloc | apply pw_below_drewN | apply below_drew1) | exact HB.out)); rintro e w26 ⟨g143, rfl, hi, hb, hb2⟩; refine ⟨_, rfl, ?_⟩; have n0_ := Aside0.mk (hb); have n1_ := Aside0.mk (hi); clear HB; have HB := n0_; have HI143 := n1_; clear n0_ n1_; (try clear hb); (try clear hb2); (try clear hk); (try clear hi)) | ((with_reducible refine gate_callee (f := 20) rfl ?_); refine goesL_ (some 12) rfl rfl Try.func20 (by kernel_rfl) rfl #[.pointer (some ⟨g143, 0, none⟩)] rfl (by (try simp only [List.map_toArray, List.map_cons, List.map_nil]); first | done | rfl | (simp only [List.length_drop, List.length_take]; rfl)) ?_; (with_reducible refine (octets_Reader_Long.calls k g143 t141 t142 t144 t145 t146 w _ ?side1 ?side2 A3.out).mono ?_); (case side1 => repeat (first | (with_reducible first | exact HI143.out | apply IsS47.alloc | apply IsS47.drewN | apply IsS47.drew | apply IsS47.set_0 | apply IsS47.set_1) | exact HI143.out)); (case side2 => repeat (first | (with_reducible first | exact HB.out | apply below_alloc | apply pw_below_drewN | apply below_drew1 | refine below_set ?_ (IsS47.ge HI143.out)) | exact HB.out)); rintro e w27 ⟨rfl, hi, hb, hk⟩; refine ⟨_, rfl, ?_⟩; have n0_ := Aside0.mk (hb); have n1_ := Aside0.mk (hi); clear HB; clear HI143; have HB := n0_; have HI143 := n1_; clear n0_ n1_; (try clear hb); (try clear hb2); (try clear hk); (try clear hi)) | ((with_reducible refine gate_callee (f := 20) rfl ?_); refine goesL_ (some 14) rfl rfl Try.func20 (by kernel_rfl) rfl #[.pointer (some ⟨g143, 0, none⟩)] rfl (by (try simp only [List.map_toArray, List.map_cons, List.map_nil]); first | done | rfl | (simp only [List.length_drop, List.length_take]; rfl)) ?_; (with_reducible refine (octets_Reader_Long.calls k g143 t145 t146 t147 t148 t149 w _ ?side1 ?side2 A4.out).mono ?_); (case side1 => repeat (first | (with_reducible first | exact HI143.out | apply IsS47.alloc | apply IsS47.drewN | apply IsS47.drew | apply IsS47.set_0 | apply IsS47.set_1) | exact HI143.out)); (case side2 => repeat (first | (with_reducible first | exact HB.out | apply below_alloc | apply pw_below_drewN | apply below_drew1 | refine below_set ?_ (IsS47.ge HI143.out)) | exact HB.out)); rintro e w28 ⟨rfl, hi, hb, hk⟩; refine ⟨_, rfl, ?_⟩; have n0_ := Aside0.mk (hb); have n1_ := Aside0.mk (hi); clear HB; clear HI143; have HB := n0_; have HI143 := n1_; clear n0_ n1_; (try clear hb); (try clear hb2); (try clear hk); (try clear hi)) | ((with_reducible refine gate_callee (f := 21) rfl ?_); refine goesL_ (some 19) rfl rfl Try.func21 (by kernel_rfl) rfl #[.pointer (some ⟨g143, 0, none⟩), .int .i64 t144] rfl (by (try simp only [List.map_toArray, List.map_cons, List.map_nil]); first | done | rfl | (simp only [List.length_drop, List.length_take]; rfl)) ?_; (with_reducible refine (octets_Reader_Take.calls k g143 t148 t149 t144 t150 t151 t152 w _ ?side1 ?side2 A9.out).mono ?_); (case side1 => repeat (first | (with_reducible first | exact HI143.out | apply IsS47.alloc | apply IsS47.drewN | apply IsS47.drew | apply IsS47.set_0 | apply IsS47.set_1) | exact HI143.out)); (case side2 => repeat (first | (with_reducible first | exact HB.out | apply below_alloc | apply pw_below_drewN | apply below_drew1 | refine below_set ?_ (IsS47.ge HI143.out)) | exact HB.out)); rintro e w29 ⟨rfl, hi, hb, hk⟩; refine ⟨_, rfl, ?_⟩; have n0_ := Aside0.mk (hb); have n1_ := Aside0.mk (hi); clear HB; clear HI143; have HB := n0_; have HI143 := n1_; clear n0_ n1_; (try clear hb); (try clear hb2); (try clear hk); (try clear hi)) | ((with_reducible refine gate_callee (f := 22) rfl ?_); refine goesL_ (some 21) rfl rfl Try.func22 (by kernel_rfl) rfl #[.pointer (some ⟨g143, 0, none⟩)] rfl (by (try simp only [List.map_toArray, List.map_cons, List.map_nil]); first | done | rfl | (simp only [List.length_drop, List.length_take]; rfl)) ?_; (with_reducible refine (octets_Reader_Good.calls g143 t151 t152 false t154 t155 w _ ?side1 ?side2 A10.out).mono ?_); (case side1 => repeat (first | (with_reducible first | exact HI143.out | apply IsS47.alloc | apply IsS47.drewN | apply IsS47.drew | apply IsS47.set_0 | apply IsS47.set_1) | exact HI143.out)); (case side2 => repeat (first | (with_reducible first | exact HB.out | apply below_alloc | apply pw_below_drewN | apply below_drew1 | refine below_set ?_ (IsS47.ge HI143.out)) | exact HB.out)); rintro e w30 ⟨rfl, hi, hb, hk⟩; refine ⟨_, rfl, ?_⟩; have n0_ := Aside0.mk (hb); have n1_ := Aside0.mk (hi); clear HB; clear HI143; have HB := n0_; have HI143 := n1_; clear n0_ n1_; (try clear hb); (try clear hb2); (try clear hk); (try clear hi)))
   go_ret3
   exact ⟨by first | rfl | (simp [errW_none, errW_some] <;> rfl) | (simp [*, errW_none, errW_some] <;> rfl), by repeat (first | (with_reducible first | exact HB.out | apply below_alloc | apply pw_below_drewN | apply below_drew1 | refine below_set ?_ (IsS47.ge HI143.out)) | exact HB.out)⟩

/-! ### palaverlaw08_awake: function 12 -/
def palaverlaw08_awake.f (k : Nat)  : Option (Bool) := (crc_Sealed.f k (⟨#[49, 50, 51, 52, 53, 54, 55, 56, 57]⟩ : ByteArray)).bind fun bt157 => (if bt157.1.size + 1 ≤ 9223372036854775807 then ((crc_Open.f k (bt157.1 ++ (⟨#[120]⟩ : ByteArray))).bind fun bt159 => ((crc_Sum.f k (⟨#[49, 50, 51, 52, 53, 54, 55, 56, 57]⟩ : ByteArray)).bind fun t162 => (if t162 = 3421780262 then (if bt157.2 = true then (if bt159.2.2 = true then (if bt159.1.toList = ([49, 50, 51, 52, 53, 54, 55, 56, 57] : List UInt8) then (some (bt159.2.1 == 17)) else (some false)) else (some false)) else (some false)) else (some false)))) else (none))
theorem palaverlaw08_awake.mono : ∀ k, LeO (palaverlaw08_awake.f k ) (palaverlaw08_awake.f (k + 1) ) := by
 intro  k
 unfold palaverlaw08_awake.f
 repeat' first
  | (with_reducible exact crc_Open.mono _ _)
  | (with_reducible exact crc_Sealed.mono _ _)
  | (with_reducible exact crc_Sum.mono _ _)
  | (with_reducible exact LeO.refl _)
  | (with_reducible exact LeO.none _)
  | (with_reducible refine LeO.ite ?_ ?_)
  | (with_reducible refine LeO.bind ?_ (fun _ => ?_))
  | exact crc_Open.mono _ _
  | exact crc_Sealed.mono _ _
  | exact crc_Sum.mono _ _
  | exact LeO.none _
  | refine LeO.ite ?_ ?_
  | refine LeO.bind ?_ (fun _ => ?_)
set_option maxHeartbeats 64000000 in
set_option maxRecDepth 100000 in
theorem palaverlaw08_awake.calls (k : Nat)  (r : Bool) (w : World) (h : palaverlaw08_awake.f k  = some r) :
 Calls Try.prog 12 #[] w fun e w' => e = .returned (.bool r) ∧ Below w.heap.size w w' := by
 have HB := Aside0.mk (Below.refl w.heap.size w)
 have H : ((crc_Sealed.f k (⟨#[49, 50, 51, 52, 53, 54, 55, 56, 57]⟩ : ByteArray)).bind fun bt157 => (if bt157.1.size + 1 ≤ 9223372036854775807 then ((crc_Open.f k (bt157.1 ++ (⟨#[120]⟩ : ByteArray))).bind fun bt159 => ((crc_Sum.f k (⟨#[49, 50, 51, 52, 53, 54, 55, 56, 57]⟩ : ByteArray)).bind fun t162 => (if t162 = 3421780262 then (if bt157.2 = true then (if bt159.2.2 = true then (if bt159.1.toList = ([49, 50, 51, 52, 53, 54, 55, 56, 57] : List UInt8) then (some (bt159.2.1 == 17)) else (some false)) else (some false)) else (some false)) else (some false)))) else (none))) = some r := h
 clear h
 replace H := Option.bind_eq_some_iff.mp H
 obtain ⟨⟨t157, t158⟩, A10, H⟩ := H
 replace H : (if t157.size + 1 ≤ 9223372036854775807 then ((crc_Open.f k (t157 ++ (⟨#[120]⟩ : ByteArray))).bind fun bt159 => ((crc_Sum.f k (⟨#[49, 50, 51, 52, 53, 54, 55, 56, 57]⟩ : ByteArray)).bind fun t162 => (if t162 = 3421780262 then (if t158 = true then (if bt159.2.2 = true then (if bt159.1.toList = ([49, 50, 51, 52, 53, 54, 55, 56, 57] : List UInt8) then (some (bt159.2.1 == 17)) else (some false)) else (some false)) else (some false)) else (some false)))) else (none)) = some r := H
 have A1 := Aside0.mk A10
 clear A10
 by_cases c2 : t157.size + 1 ≤ 9223372036854775807
 rotate_left
 ·rw [if_neg c2] at H
  exact absurd H (by simp)
 rw [if_pos c2] at H
 have c2b0 := eq_true c2
 have c2b1 : decide (t157.size + 1 ≤ 9223372036854775807) = true := decide_eq_true c2
 try have c2b2 : (9223372036854775807 < t157.size + 1) = False := eq_false (Nat.not_lt.2 c2)
 replace H := Option.bind_eq_some_iff.mp H
 obtain ⟨⟨t159, t160, t161⟩, A30, H⟩ := H
 replace H : ((crc_Sum.f k (⟨#[49, 50, 51, 52, 53, 54, 55, 56, 57]⟩ : ByteArray)).bind fun t162 => (if t162 = 3421780262 then (if t158 = true then (if t161 = true then (if t159.toList = ([49, 50, 51, 52, 53, 54, 55, 56, 57] : List UInt8) then (some (t160 == 17)) else (some false)) else (some false)) else (some false)) else (some false))) = some r := H
 have A3 := Aside0.mk A30
 clear A30
 replace H := Option.bind_eq_some_iff.mp H
 obtain ⟨t162, A40, H⟩ := H
 replace H : (if t162 = 3421780262 then (if t158 = true then (if t161 = true then (if t159.toList = ([49, 50, 51, 52, 53, 54, 55, 56, 57] : List UInt8) then (some (t160 == 17)) else (some false)) else (some false)) else (some false)) else (some false)) = some r := H
 have A4 := Aside0.mk A40
 clear A40
 by_cases c5 : t162 = 3421780262
 ·rw [if_pos c5] at H
  have c5b0 : (t162 == 3421780262) = true := beq_iff_eq.mpr c5
  have c5b1 : (t162 != 3421780262) = false := bne_eq_false_iff_eq.mpr c5
  clear c5
  by_cases c6 : t158 = true
  ·subst c6
   have H1 : (if t161 = true then (if t159.toList = ([49, 50, 51, 52, 53, 54, 55, 56, 57] : List UInt8) then (some (t160 == 17)) else (some false)) else (some false)) = some r := by rw [if_pos rfl] at H; exact H
   clear H
   have H := H1
   clear H1
   by_cases c7 : t161 = true
   ·subst c7
    have H1 : (if t159.toList = ([49, 50, 51, 52, 53, 54, 55, 56, 57] : List UInt8) then (some (t160 == 17)) else (some false)) = some r := by rw [if_pos rfl] at H; exact H
    clear H
    have H := H1
    clear H1
    by_cases c8 : t159.toList = ([49, 50, 51, 52, 53, 54, 55, 56, 57] : List UInt8)
    ·rw [if_pos c8] at H
     have c8b0 : (t159.toList == ([49, 50, 51, 52, 53, 54, 55, 56, 57] : List UInt8)) = true := beq_iff_eq.mpr c8
     have c8b1 : (t159.toList != ([49, 50, 51, 52, 53, 54, 55, 56, 57] : List UInt8)) = false := bne_eq_false_iff_eq.mpr c8
     clear c8
     obtain rfl := Option.some.inj H
     go_enter Try.func12, Try.ntmps12
     go_wp2_with (first | ((with_reducible refine gate_callee (f := 13) rfl ?_); refine goesL_ (some 7) rfl rfl Try.func13 (by kernel_rfl) rfl #[.string (⟨#[49, 50, 51, 52, 53, 54, 55, 56, 57]⟩ : ByteArray)] rfl (by (try simp only [List.map_toArray, List.map_cons, List.map_nil]); first | done | rfl | (simp only [List.length_drop, List.length_take]; rfl)) ?_; (with_reducible refine (crc_Sealed.calls k (⟨#[49, 50, 51, 52, 53, 54, 55, 56, 57]⟩ : ByteArray) t157 true _ A1.out).mono ?_); rintro e w9 ⟨rfl, hb⟩; refine ⟨_, rfl, ?_⟩; have n0_ := Aside0.mk (below_step (by repeat (first | (with_reducible first | exact HB.out | apply below_alloc | apply pw_below_drewN | apply below_drew1) | exact HB.out)) hb); clear HB; have HB := n0_; clear n0_; (try clear hb); (try clear hb2); (try clear hk); (try clear hi)) | ((with_reducible refine gate_callee (f := 15) rfl ?_); refine goesL_ (some 13) rfl rfl Try.func15 (by kernel_rfl) rfl #[.string (t157 ++ (⟨#[120]⟩ : ByteArray))] rfl (by (try simp only [List.map_toArray, List.map_cons, List.map_nil]); first | done | rfl | (simp only [List.length_drop, List.length_take]; rfl)) ?_; (with_reducible refine (crc_Open.calls k (t157 ++ (⟨#[120]⟩ : ByteArray)) t159 t160 true _ A3.out).mono ?_); rintro e w10 ⟨rfl, hb⟩; refine ⟨_, rfl, ?_⟩; have n0_ := Aside0.mk (below_step (by repeat (first | (with_reducible first | exact HB.out | apply below_alloc | apply pw_below_drewN | apply below_drew1) | exact HB.out)) hb); clear HB; have HB := n0_; clear n0_; (try clear hb); (try clear hb2); (try clear hk); (try clear hi)) | ((with_reducible refine gate_callee (f := 9) rfl ?_); refine goesL_ (some 17) rfl rfl Try.func9 (by kernel_rfl) rfl #[.string (⟨#[49, 50, 51, 52, 53, 54, 55, 56, 57]⟩ : ByteArray)] rfl (by (try simp only [List.map_toArray, List.map_cons, List.map_nil]); first | done | rfl | (simp only [List.length_drop, List.length_take]; rfl)) ?_; (with_reducible refine (crc_Sum.calls k (⟨#[49, 50, 51, 52, 53, 54, 55, 56, 57]⟩ : ByteArray) t162 _ A4.out).mono ?_); rintro e w11 ⟨rfl, hb⟩; refine ⟨_, rfl, ?_⟩; have n0_ := Aside0.mk (below_step (by repeat (first | (with_reducible first | exact HB.out | apply below_alloc | apply pw_below_drewN | apply below_drew1) | exact HB.out)) hb); clear HB; have HB := n0_; clear n0_; (try clear hb); (try clear hb2); (try clear hk); (try clear hi)))
     go_ret
     exact ⟨by first | rfl | (simp [errW_none, errW_some] <;> rfl) | (simp [*, errW_none, errW_some] <;> rfl), by repeat (first | (with_reducible first | exact HB.out | apply below_alloc | apply pw_below_drewN | apply below_drew1) | exact HB.out)⟩
    ·rw [if_neg c8] at H
     have c8b0 : (t159.toList == ([49, 50, 51, 52, 53, 54, 55, 56, 57] : List UInt8)) = false := beq_eq_false_iff_ne.mpr c8
     have c8b1 : (t159.toList != ([49, 50, 51, 52, 53, 54, 55, 56, 57] : List UInt8)) = true := bne_iff_ne.mpr c8
     obtain rfl := Option.some.inj H
     go_enter Try.func12, Try.ntmps12
     go_wp2_with (first | ((with_reducible refine gate_callee (f := 13) rfl ?_); refine goesL_ (some 7) rfl rfl Try.func13 (by kernel_rfl) rfl #[.string (⟨#[49, 50, 51, 52, 53, 54, 55, 56, 57]⟩ : ByteArray)] rfl (by (try simp only [List.map_toArray, List.map_cons, List.map_nil]); first | done | rfl | (simp only [List.length_drop, List.length_take]; rfl)) ?_; (with_reducible refine (crc_Sealed.calls k (⟨#[49, 50, 51, 52, 53, 54, 55, 56, 57]⟩ : ByteArray) t157 true _ A1.out).mono ?_); rintro e w12 ⟨rfl, hb⟩; refine ⟨_, rfl, ?_⟩; have n0_ := Aside0.mk (below_step (by repeat (first | (with_reducible first | exact HB.out | apply below_alloc | apply pw_below_drewN | apply below_drew1) | exact HB.out)) hb); clear HB; have HB := n0_; clear n0_; (try clear hb); (try clear hb2); (try clear hk); (try clear hi)) | ((with_reducible refine gate_callee (f := 15) rfl ?_); refine goesL_ (some 13) rfl rfl Try.func15 (by kernel_rfl) rfl #[.string (t157 ++ (⟨#[120]⟩ : ByteArray))] rfl (by (try simp only [List.map_toArray, List.map_cons, List.map_nil]); first | done | rfl | (simp only [List.length_drop, List.length_take]; rfl)) ?_; (with_reducible refine (crc_Open.calls k (t157 ++ (⟨#[120]⟩ : ByteArray)) t159 t160 true _ A3.out).mono ?_); rintro e w13 ⟨rfl, hb⟩; refine ⟨_, rfl, ?_⟩; have n0_ := Aside0.mk (below_step (by repeat (first | (with_reducible first | exact HB.out | apply below_alloc | apply pw_below_drewN | apply below_drew1) | exact HB.out)) hb); clear HB; have HB := n0_; clear n0_; (try clear hb); (try clear hb2); (try clear hk); (try clear hi)) | ((with_reducible refine gate_callee (f := 9) rfl ?_); refine goesL_ (some 17) rfl rfl Try.func9 (by kernel_rfl) rfl #[.string (⟨#[49, 50, 51, 52, 53, 54, 55, 56, 57]⟩ : ByteArray)] rfl (by (try simp only [List.map_toArray, List.map_cons, List.map_nil]); first | done | rfl | (simp only [List.length_drop, List.length_take]; rfl)) ?_; (with_reducible refine (crc_Sum.calls k (⟨#[49, 50, 51, 52, 53, 54, 55, 56, 57]⟩ : ByteArray) t162 _ A4.out).mono ?_); rintro e w14 ⟨rfl, hb⟩; refine ⟨_, rfl, ?_⟩; have n0_ := Aside0.mk (below_step (by repeat (first | (with_reducible first | exact HB.out | apply below_alloc | apply pw_below_drewN | apply below_drew1) | exact HB.out)) hb); clear HB; have HB := n0_; clear n0_; (try clear hb); (try clear hb2); (try clear hk); (try clear hi)))
     go_ret
     exact ⟨by first | rfl | (simp [errW_none, errW_some] <;> rfl) | (simp [*, errW_none, errW_some] <;> rfl), by repeat (first | (with_reducible first | exact HB.out | apply below_alloc | apply pw_below_drewN | apply below_drew1) | exact HB.out)⟩
   ·replace c7 := Bool.eq_false_iff.mpr c7
    subst c7
    have H1 : (some false) = some r := by rw [if_neg (show ¬ (false = true) by decide)] at H; exact H
    clear H
    have H := H1
    clear H1
    obtain rfl := Option.some.inj H
    go_enter Try.func12, Try.ntmps12
    go_wp2_with (first | ((with_reducible refine gate_callee (f := 13) rfl ?_); refine goesL_ (some 7) rfl rfl Try.func13 (by kernel_rfl) rfl #[.string (⟨#[49, 50, 51, 52, 53, 54, 55, 56, 57]⟩ : ByteArray)] rfl (by (try simp only [List.map_toArray, List.map_cons, List.map_nil]); first | done | rfl | (simp only [List.length_drop, List.length_take]; rfl)) ?_; (with_reducible refine (crc_Sealed.calls k (⟨#[49, 50, 51, 52, 53, 54, 55, 56, 57]⟩ : ByteArray) t157 true _ A1.out).mono ?_); rintro e w15 ⟨rfl, hb⟩; refine ⟨_, rfl, ?_⟩; have n0_ := Aside0.mk (below_step (by repeat (first | (with_reducible first | exact HB.out | apply below_alloc | apply pw_below_drewN | apply below_drew1) | exact HB.out)) hb); clear HB; have HB := n0_; clear n0_; (try clear hb); (try clear hb2); (try clear hk); (try clear hi)) | ((with_reducible refine gate_callee (f := 15) rfl ?_); refine goesL_ (some 13) rfl rfl Try.func15 (by kernel_rfl) rfl #[.string (t157 ++ (⟨#[120]⟩ : ByteArray))] rfl (by (try simp only [List.map_toArray, List.map_cons, List.map_nil]); first | done | rfl | (simp only [List.length_drop, List.length_take]; rfl)) ?_; (with_reducible refine (crc_Open.calls k (t157 ++ (⟨#[120]⟩ : ByteArray)) t159 t160 false _ A3.out).mono ?_); rintro e w16 ⟨rfl, hb⟩; refine ⟨_, rfl, ?_⟩; have n0_ := Aside0.mk (below_step (by repeat (first | (with_reducible first | exact HB.out | apply below_alloc | apply pw_below_drewN | apply below_drew1) | exact HB.out)) hb); clear HB; have HB := n0_; clear n0_; (try clear hb); (try clear hb2); (try clear hk); (try clear hi)) | ((with_reducible refine gate_callee (f := 9) rfl ?_); refine goesL_ (some 17) rfl rfl Try.func9 (by kernel_rfl) rfl #[.string (⟨#[49, 50, 51, 52, 53, 54, 55, 56, 57]⟩ : ByteArray)] rfl (by (try simp only [List.map_toArray, List.map_cons, List.map_nil]); first | done | rfl | (simp only [List.length_drop, List.length_take]; rfl)) ?_; (with_reducible refine (crc_Sum.calls k (⟨#[49, 50, 51, 52, 53, 54, 55, 56, 57]⟩ : ByteArray) t162 _ A4.out).mono ?_); rintro e w17 ⟨rfl, hb⟩; refine ⟨_, rfl, ?_⟩; have n0_ := Aside0.mk (below_step (by repeat (first | (with_reducible first | exact HB.out | apply below_alloc | apply pw_below_drewN | apply below_drew1) | exact HB.out)) hb); clear HB; have HB := n0_; clear n0_; (try clear hb); (try clear hb2); (try clear hk); (try clear hi)))
    go_ret
    exact ⟨by first | rfl | (simp [errW_none, errW_some] <;> rfl) | (simp [*, errW_none, errW_some] <;> rfl), by repeat (first | (with_reducible first | exact HB.out | apply below_alloc | apply pw_below_drewN | apply below_drew1) | exact HB.out)⟩
  ·replace c6 := Bool.eq_false_iff.mpr c6
   subst c6
   have H1 : (some false) = some r := by rw [if_neg (show ¬ (false = true) by decide)] at H; exact H
   clear H
   have H := H1
   clear H1
   obtain rfl := Option.some.inj H
   go_enter Try.func12, Try.ntmps12
   go_wp2_with (first | ((with_reducible refine gate_callee (f := 13) rfl ?_); refine goesL_ (some 7) rfl rfl Try.func13 (by kernel_rfl) rfl #[.string (⟨#[49, 50, 51, 52, 53, 54, 55, 56, 57]⟩ : ByteArray)] rfl (by (try simp only [List.map_toArray, List.map_cons, List.map_nil]); first | done | rfl | (simp only [List.length_drop, List.length_take]; rfl)) ?_; (with_reducible refine (crc_Sealed.calls k (⟨#[49, 50, 51, 52, 53, 54, 55, 56, 57]⟩ : ByteArray) t157 false _ A1.out).mono ?_); rintro e w18 ⟨rfl, hb⟩; refine ⟨_, rfl, ?_⟩; have n0_ := Aside0.mk (below_step (by repeat (first | (with_reducible first | exact HB.out | apply below_alloc | apply pw_below_drewN | apply below_drew1) | exact HB.out)) hb); clear HB; have HB := n0_; clear n0_; (try clear hb); (try clear hb2); (try clear hk); (try clear hi)) | ((with_reducible refine gate_callee (f := 15) rfl ?_); refine goesL_ (some 13) rfl rfl Try.func15 (by kernel_rfl) rfl #[.string (t157 ++ (⟨#[120]⟩ : ByteArray))] rfl (by (try simp only [List.map_toArray, List.map_cons, List.map_nil]); first | done | rfl | (simp only [List.length_drop, List.length_take]; rfl)) ?_; (with_reducible refine (crc_Open.calls k (t157 ++ (⟨#[120]⟩ : ByteArray)) t159 t160 t161 _ A3.out).mono ?_); rintro e w19 ⟨rfl, hb⟩; refine ⟨_, rfl, ?_⟩; have n0_ := Aside0.mk (below_step (by repeat (first | (with_reducible first | exact HB.out | apply below_alloc | apply pw_below_drewN | apply below_drew1) | exact HB.out)) hb); clear HB; have HB := n0_; clear n0_; (try clear hb); (try clear hb2); (try clear hk); (try clear hi)) | ((with_reducible refine gate_callee (f := 9) rfl ?_); refine goesL_ (some 17) rfl rfl Try.func9 (by kernel_rfl) rfl #[.string (⟨#[49, 50, 51, 52, 53, 54, 55, 56, 57]⟩ : ByteArray)] rfl (by (try simp only [List.map_toArray, List.map_cons, List.map_nil]); first | done | rfl | (simp only [List.length_drop, List.length_take]; rfl)) ?_; (with_reducible refine (crc_Sum.calls k (⟨#[49, 50, 51, 52, 53, 54, 55, 56, 57]⟩ : ByteArray) t162 _ A4.out).mono ?_); rintro e w20 ⟨rfl, hb⟩; refine ⟨_, rfl, ?_⟩; have n0_ := Aside0.mk (below_step (by repeat (first | (with_reducible first | exact HB.out | apply below_alloc | apply pw_below_drewN | apply below_drew1) | exact HB.out)) hb); clear HB; have HB := n0_; clear n0_; (try clear hb); (try clear hb2); (try clear hk); (try clear hi)))
   go_ret
   exact ⟨by first | rfl | (simp [errW_none, errW_some] <;> rfl) | (simp [*, errW_none, errW_some] <;> rfl), by repeat (first | (with_reducible first | exact HB.out | apply below_alloc | apply pw_below_drewN | apply below_drew1) | exact HB.out)⟩
 ·rw [if_neg c5] at H
  have c5b0 : (t162 == 3421780262) = false := beq_eq_false_iff_ne.mpr c5
  have c5b1 : (t162 != 3421780262) = true := bne_iff_ne.mpr c5
  obtain rfl := Option.some.inj H
  go_enter Try.func12, Try.ntmps12
  go_wp2_with (first | ((with_reducible refine gate_callee (f := 13) rfl ?_); refine goesL_ (some 7) rfl rfl Try.func13 (by kernel_rfl) rfl #[.string (⟨#[49, 50, 51, 52, 53, 54, 55, 56, 57]⟩ : ByteArray)] rfl (by (try simp only [List.map_toArray, List.map_cons, List.map_nil]); first | done | rfl | (simp only [List.length_drop, List.length_take]; rfl)) ?_; (with_reducible refine (crc_Sealed.calls k (⟨#[49, 50, 51, 52, 53, 54, 55, 56, 57]⟩ : ByteArray) t157 t158 _ A1.out).mono ?_); rintro e w21 ⟨rfl, hb⟩; refine ⟨_, rfl, ?_⟩; have n0_ := Aside0.mk (below_step (by repeat (first | (with_reducible first | exact HB.out | apply below_alloc | apply pw_below_drewN | apply below_drew1) | exact HB.out)) hb); clear HB; have HB := n0_; clear n0_; (try clear hb); (try clear hb2); (try clear hk); (try clear hi)) | ((with_reducible refine gate_callee (f := 15) rfl ?_); refine goesL_ (some 13) rfl rfl Try.func15 (by kernel_rfl) rfl #[.string (t157 ++ (⟨#[120]⟩ : ByteArray))] rfl (by (try simp only [List.map_toArray, List.map_cons, List.map_nil]); first | done | rfl | (simp only [List.length_drop, List.length_take]; rfl)) ?_; (with_reducible refine (crc_Open.calls k (t157 ++ (⟨#[120]⟩ : ByteArray)) t159 t160 t161 _ A3.out).mono ?_); rintro e w22 ⟨rfl, hb⟩; refine ⟨_, rfl, ?_⟩; have n0_ := Aside0.mk (below_step (by repeat (first | (with_reducible first | exact HB.out | apply below_alloc | apply pw_below_drewN | apply below_drew1) | exact HB.out)) hb); clear HB; have HB := n0_; clear n0_; (try clear hb); (try clear hb2); (try clear hk); (try clear hi)) | ((with_reducible refine gate_callee (f := 9) rfl ?_); refine goesL_ (some 17) rfl rfl Try.func9 (by kernel_rfl) rfl #[.string (⟨#[49, 50, 51, 52, 53, 54, 55, 56, 57]⟩ : ByteArray)] rfl (by (try simp only [List.map_toArray, List.map_cons, List.map_nil]); first | done | rfl | (simp only [List.length_drop, List.length_take]; rfl)) ?_; (with_reducible refine (crc_Sum.calls k (⟨#[49, 50, 51, 52, 53, 54, 55, 56, 57]⟩ : ByteArray) t162 _ A4.out).mono ?_); rintro e w23 ⟨rfl, hb⟩; refine ⟨_, rfl, ?_⟩; have n0_ := Aside0.mk (below_step (by repeat (first | (with_reducible first | exact HB.out | apply below_alloc | apply pw_below_drewN | apply below_drew1) | exact HB.out)) hb); clear HB; have HB := n0_; clear n0_; (try clear hb); (try clear hb2); (try clear hk); (try clear hi)))
  go_ret
  exact ⟨by first | rfl | (simp [errW_none, errW_some] <;> rfl) | (simp [*, errW_none, errW_some] <;> rfl), by repeat (first | (with_reducible first | exact HB.out | apply below_alloc | apply pw_below_drewN | apply below_drew1) | exact HB.out)⟩

/-! ### palaverref01_Number: function 18 -/
mutual
def palaverref01_Number.l0 : Nat → Int → Int → Int → Int → Option (ByteArray × Bool)
 | 0, _, _, _, _ => none
 | k + 1, x0, x1, x6, x7 => if x7 < x1 then (palaverref01_Number.l0 k x0 x1 (wrap64 (256 * x6)) (wrap64 (x7 + 1))) else (if x0 < 0 then (palaverref01_Number.j1 k x0 x1 true) else (palaverref01_Number.j1 k x0 x1 (decide (x0 ≥ x6))))
def palaverref01_Number.j1 : Nat → Int → Int → Bool → Option (ByteArray × Bool)
 | 0, _, _, _ => none
 | k + 1, x0, x1, x23 => if x23 = true then (some ((⟨#[]⟩ : ByteArray), false)) else (palaverref01_Number.l1 k x0 x1 (⟨#[]⟩ : ByteArray) 0)
def palaverref01_Number.l1 : Nat → Int → Int → ByteArray → Int → Option (ByteArray × Bool)
 | 0, _, _, _, _ => none
 | k + 1, x0, x1, x8, x9 => if x9 < x1 then ((some (([(Int.tmod x0 256) % 256] : List Int) : List Int)).bind fun y169 => (if (strOfNums y169).size + x8.size ≤ 9223372036854775807 then (palaverref01_Number.l1 k (wrap64 (Int.tdiv x0 256)) x1 ((strOfNums y169) ++ x8) (wrap64 (x9 + 1))) else (none))) else (some (x8, true))
end
def palaverref01_Number.f (k : Nat) (a0 : Int) (a1 : Int) : Option (ByteArray × Bool) := palaverref01_Number.l0 k a0 a1 1 0
theorem palaverref01_Number.mono_l : ∀ k, (∀ y0 y1 y2 y3, LeO (palaverref01_Number.l0 k y0 y1 y2 y3) (palaverref01_Number.l0 (k + 1) y0 y1 y2 y3)) ∧ (∀ y0 y1 y2, LeO (palaverref01_Number.j1 k y0 y1 y2) (palaverref01_Number.j1 (k + 1) y0 y1 y2)) ∧ (∀ y0 y1 y2 y3, LeO (palaverref01_Number.l1 k y0 y1 y2 y3) (palaverref01_Number.l1 (k + 1) y0 y1 y2 y3))
 | 0 => ⟨fun _ _ _ _ r h => by simp [palaverref01_Number.l0] at h, fun _ _ _ r h => by simp [palaverref01_Number.j1] at h, fun _ _ _ _ r h => by simp [palaverref01_Number.l1] at h⟩
 | k + 1 => by
  obtain ⟨ih0, ih1, ih2⟩ := palaverref01_Number.mono_l k
  refine ⟨?_, ?_, ?_⟩
  ·intro y0 y1 y2 y3
   unfold palaverref01_Number.l0
   repeat' first
   | (with_reducible exact ih0 _ _ _ _)
   | (with_reducible exact ih1 _ _ _)
   | (with_reducible exact ih2 _ _ _ _)
   | (with_reducible exact LeO.refl _)
   | (with_reducible exact LeO.none _)
   | (with_reducible refine LeO.ite ?_ ?_)
   | (with_reducible refine LeO.bind ?_ (fun _ => ?_))
   | exact ih0 _ _ _ _
   | exact ih1 _ _ _
   | exact ih2 _ _ _ _
   | exact LeO.none _
   | refine LeO.ite ?_ ?_
   | refine LeO.bind ?_ (fun _ => ?_)
  ·intro y0 y1 y2
   unfold palaverref01_Number.j1
   repeat' first
   | (with_reducible exact ih0 _ _ _ _)
   | (with_reducible exact ih1 _ _ _)
   | (with_reducible exact ih2 _ _ _ _)
   | (with_reducible exact LeO.refl _)
   | (with_reducible exact LeO.none _)
   | (with_reducible refine LeO.ite ?_ ?_)
   | (with_reducible refine LeO.bind ?_ (fun _ => ?_))
   | exact ih0 _ _ _ _
   | exact ih1 _ _ _
   | exact ih2 _ _ _ _
   | exact LeO.none _
   | refine LeO.ite ?_ ?_
   | refine LeO.bind ?_ (fun _ => ?_)
  ·intro y0 y1 y2 y3
   unfold palaverref01_Number.l1
   repeat' first
   | (with_reducible exact ih0 _ _ _ _)
   | (with_reducible exact ih1 _ _ _)
   | (with_reducible exact ih2 _ _ _ _)
   | (with_reducible exact LeO.refl _)
   | (with_reducible exact LeO.none _)
   | (with_reducible refine LeO.ite ?_ ?_)
   | (with_reducible refine LeO.bind ?_ (fun _ => ?_))
   | exact ih0 _ _ _ _
   | exact ih1 _ _ _
   | exact ih2 _ _ _ _
   | exact LeO.none _
   | refine LeO.ite ?_ ?_
   | refine LeO.bind ?_ (fun _ => ?_)
theorem palaverref01_Number.mono : ∀ a0 a1 k, LeO (palaverref01_Number.f k a0 a1) (palaverref01_Number.f (k + 1) a0 a1) := by
 intro a0 a1 k
 obtain ⟨ih0, ih1, ih2⟩ := palaverref01_Number.mono_l k
 unfold palaverref01_Number.f
 repeat' first
  | (with_reducible exact ih0 _ _ _ _)
  | (with_reducible exact ih1 _ _ _)
  | (with_reducible exact ih2 _ _ _ _)
  | (with_reducible exact LeO.refl _)
  | (with_reducible exact LeO.none _)
  | (with_reducible refine LeO.ite ?_ ?_)
  | (with_reducible refine LeO.bind ?_ (fun _ => ?_))
  | exact ih0 _ _ _ _
  | exact ih1 _ _ _
  | exact ih2 _ _ _ _
  | exact LeO.none _
  | refine LeO.ite ?_ ?_
  | refine LeO.bind ?_ (fun _ => ?_)
set_option maxHeartbeats 64000000 in
set_option maxRecDepth 100000 in
theorem palaverref01_Number.calls (k : Nat) (a0 : Int) (a1 : Int) (r1 : ByteArray) (r2 : Bool) (w : World) (h : palaverref01_Number.f k a0 a1 = some (r1, r2)) :
 Calls Try.prog 18 #[.int .i64 a0, .int .i64 a1] w fun e w' => e = .returned (.tuple #[.string r1, .bool r2]) ∧ Below w.heap.size w w' := by
 have HB := Aside0.mk (Below.refl w.heap.size w)
 have H : (palaverref01_Number.l0 k a0 a1 1 0) = some (r1, r2) := h
 clear h
 have H' := Aside0.mk H
 clear H
 go_enter Try.func18, Try.ntmps18
 go_wp2
 go_loopg [6, 7] k (fun kq v6 v7 w' => ∃ (x6_1 : Int) (x7_1 : Int), v6 = .int .i64 x6_1 ∧ v7 = .int .i64 x7_1 ∧ Aside0 (palaverref01_Number.l0 kq a0 a1 x6_1 x7_1 = some (r1, r2)) ∧ Aside0 (kq ≤ k) ∧ Aside0 (Below w.heap.size w w'))
 case atStart => exact ⟨(1), (0), (by first | rfl | (simp; done) | (simp [*]; done) | exact congrArg Value.bool (nonempty_l _) | (refine congrArg (Value.int _) ?_; first | omega | (unfold Go.RowKit.wrap64; omega))), (by first | rfl | (simp; done) | (simp [*]; done) | exact congrArg Value.bool (nonempty_l _) | (refine congrArg (Value.int _) ?_; first | omega | (unfold Go.RowKit.wrap64; omega))), H', ⟨Nat.le_refl _⟩, ⟨by repeat (first | (with_reducible first | exact HB.out | apply below_alloc | apply pw_below_drewN | apply below_drew1) | exact HB.out)⟩⟩
 case round =>
  clear H'
  (try clear c1); (try clear p2)
  obtain ⟨x6_1, x7_1, rfl, rfl, HA, HK1, HB⟩ := hrel
  cases gk with
  | zero => exact absurd HA.out (by simp [palaverref01_Number.l0])
  | succ k1 =>
   have H := HA.out
   clear HA
   simp only [palaverref01_Number.l0] at H
   by_cases c3 : x7_1 < a1
   ·rw [if_pos c3] at H
    have c3b0 : decide (x7_1 < a1) = true := decide_eq_true c3
    clear c3
    have H' := Aside0.mk H
    clear H
    go_wp2
    go_roundg k1
    case measure => have := HK1.out; omega
    case rel => exact ⟨(wrap64 (256 * x6_1)), (wrap64 (x7_1 + 1)), (by first | rfl | (simp; done) | (simp [*]; done) | exact congrArg Value.bool (nonempty_l _) | (refine congrArg (Value.int _) ?_; first | omega | (unfold Go.RowKit.wrap64; omega))), (by first | rfl | (simp; done) | (simp [*]; done) | exact congrArg Value.bool (nonempty_l _) | (refine congrArg (Value.int _) ?_; first | omega | (unfold Go.RowKit.wrap64; omega))), H', ⟨by have := HK1.out; omega⟩, ⟨by repeat (first | (with_reducible first | exact HB.out | apply below_alloc | apply pw_below_drewN | apply below_drew1) | exact HB.out)⟩⟩
   ·rw [if_neg c3] at H
    have c3b0 : decide (x7_1 < a1) = false := decide_eq_false c3
    clear c3
    have HC4 := Aside0.mk H
    clear H
    go_upto_region 6 with (fail)
    go_cut [23] (fun v23 wc => ∃ (kq : Nat) (x23_3 : Bool), v23 = .bool x23_3 ∧ Aside0 (palaverref01_Number.j1 kq a0 a1 x23_3 = some (r1, r2)) ∧ Aside0 (kq ≤ k1) ∧ Aside0 (Below w.heap.size w wc))
    case first =>
     have H := HC4.out
     clear HC4
     by_cases c5 : a0 < 0
     ·rw [if_pos c5] at H
      have c5b0 : decide (a0 < 0) = true := decide_eq_true c5
      clear c5
      (first | rw [c5b0] | (simp only [i64_w, i32_w]; rw [c5b0]) | skip)
      have H' := Aside0.mk H
      clear H
      go_wp2
      go_meet
      case rel => exact ⟨_, (true), (by first | rfl | (simp; done) | (simp [*]; done) | exact congrArg Value.bool (nonempty_l _) | (refine congrArg (Value.int _) ?_; first | omega | (unfold Go.RowKit.wrap64; omega))), H', ⟨by have := HK1.out; first | omega | exact Nat.le_refl _⟩, ⟨by repeat (first | (with_reducible first | exact HB.out | apply below_alloc | apply pw_below_drewN | apply below_drew1) | exact HB.out)⟩⟩
     ·rw [if_neg c5] at H
      have c5b0 : decide (a0 < 0) = false := decide_eq_false c5
      clear c5
      (first | rw [c5b0] | (simp only [i64_w, i32_w]; rw [c5b0]) | skip)
      have H' := Aside0.mk H
      clear H
      go_wp2
      go_meet
      case rel => exact ⟨_, (decide (a0 ≥ x6_1)), (by first | rfl | (simp; done) | (simp [*]; done) | exact congrArg Value.bool (nonempty_l _) | (refine congrArg (Value.int _) ?_; first | omega | (unfold Go.RowKit.wrap64; omega))), H', ⟨by have := HK1.out; first | omega | exact Nat.le_refl _⟩, ⟨by repeat (first | (with_reducible first | exact HB.out | apply below_alloc | apply pw_below_drewN | apply below_drew1) | exact HB.out)⟩⟩
    case rest =>
     clear HC4
     (try clear c1); (try clear p2); (try clear c3); (try clear c3b0); (try clear c5); (try clear c5b0); (try clear p2)
     obtain ⟨kq, x23_3, rfl, HA, HJ3, HB⟩ := hcut
     cases kq with
     | zero => exact absurd HA.out (by simp [palaverref01_Number.j1])
     | succ kj3 =>
      have H := HA.out
      clear HA
      simp only [palaverref01_Number.j1] at H
      by_cases c6 : x23_3 = true
      ·subst c6
       have H1 : (some ((⟨#[]⟩ : ByteArray), false)) = some (r1, r2) := by rw [if_pos rfl] at H; exact H
       clear H
       have H := H1
       clear H1
       simp only [Option.some.injEq, Prod.mk.injEq] at H
       obtain ⟨rfl, rfl⟩ := H
       go_wp2
       go_ret2
       exact ⟨by first | rfl | (simp [errW_none, errW_some] <;> rfl) | (simp [*, errW_none, errW_some] <;> rfl), by repeat (first | (with_reducible first | exact HB.out | apply below_alloc | apply pw_below_drewN | apply below_drew1) | exact HB.out)⟩
      ·replace c6 := Bool.eq_false_iff.mpr c6
       subst c6
       have H1 : (palaverref01_Number.l1 kj3 a0 a1 (⟨#[]⟩ : ByteArray) 0) = some (r1, r2) := by rw [if_neg (show ¬ (false = true) by decide)] at H; exact H
       clear H
       have H := H1
       clear H1
       have H' := Aside0.mk H
       clear H
       go_wp2
       go_loopg [0, 8, 9] kj3 (fun kq v0 v8 v9 w' => ∃ (x0_3 : Int) (x8_3 : ByteArray) (x9_3 : Int), v0 = .int .i64 x0_3 ∧ v8 = .string x8_3 ∧ v9 = .int .i64 x9_3 ∧ Aside0 (palaverref01_Number.l1 kq x0_3 a1 x8_3 x9_3 = some (r1, r2)) ∧ Aside0 (kq ≤ kj3) ∧ Aside0 (Below w.heap.size w w'))
       case atStart => exact ⟨(a0), ((⟨#[]⟩ : ByteArray)), (0), (by first | rfl | (simp; done) | (simp [*]; done) | exact congrArg Value.bool (nonempty_l _) | (refine congrArg (Value.int _) ?_; first | omega | (unfold Go.RowKit.wrap64; omega))), (by first | rfl | (simp; done) | (simp [*]; done) | exact congrArg Value.bool (nonempty_l _) | (refine congrArg (Value.int _) ?_; first | omega | (unfold Go.RowKit.wrap64; omega))), (by first | rfl | (simp; done) | (simp [*]; done) | exact congrArg Value.bool (nonempty_l _) | (refine congrArg (Value.int _) ?_; first | omega | (unfold Go.RowKit.wrap64; omega))), H', ⟨Nat.le_refl _⟩, ⟨by repeat (first | (with_reducible first | exact HB.out | apply below_alloc | apply pw_below_drewN | apply below_drew1) | exact HB.out)⟩⟩
       case round =>
        clear H'
        (try clear c1); (try clear p2); (try clear c3); (try clear c3b0); (try clear c5); (try clear c5b0); (try clear c6); (try clear p6); (try clear p2)
        obtain ⟨x0_3, x8_3, x9_3, rfl, rfl, rfl, HA, HK3, HB⟩ := hrel
        cases gk with
        | zero => exact absurd HA.out (by simp [palaverref01_Number.l1])
        | succ k3 =>
         have H := HA.out
         clear HA
         simp only [palaverref01_Number.l1] at H
         by_cases c7 : x9_3 < a1
         ·rw [if_pos c7] at H
          have c7b0 : decide (x9_3 < a1) = true := decide_eq_true c7
          clear c7
          obtain ⟨y169, hy169⟩ : ∃ y_ : List Int, y_ = (([(Int.tmod x0_3 256) % 256] : List Int)) := ⟨_, rfl⟩
          replace H : (if (strOfNums y169).size + x8_3.size ≤ 9223372036854775807 then (palaverref01_Number.l1 k3 (wrap64 (Int.tdiv x0_3 256)) a1 ((strOfNums y169) ++ x8_3) (wrap64 (x9_3 + 1))) else (none)) = some (r1, r2) := by first | (rw [hy169]; with_reducible exact H) | (have H2_ := (Option.bind_some _ _).symm.trans H; rw [hy169]; with_reducible exact H2_) | (have H2_ := (Option.bind_some _ _).symm.trans H; with_reducible exact H2_) | with_reducible exact H | (rw [hy169]; exact H) | exact H
          have Ny169 := Aside0.mk hy169
          clear hy169
          by_cases c8 : (strOfNums y169).size + x8_3.size ≤ 9223372036854775807
          rotate_left
          ·rw [if_neg c8] at H
           exact absurd H (by simp)
          rw [if_pos c8] at H
          have c8b0 := eq_true c8
          have c8b1 : decide ((strOfNums y169).size + x8_3.size ≤ 9223372036854775807) = true := decide_eq_true c8
          try have c8b2 : (9223372036854775807 < (strOfNums y169).size + x8_3.size) = False := eq_false (Nat.not_lt.2 c8)
          have H' := Aside0.mk H
          clear H
          go_wp2_with (first | ((with_reducible refine gate_dst (N := 32) rfl ?_); refine Kd.R_lit (Kd.int .u8) _ 5 ?hg (N := 32) ?hd (xs := ([(Int.tmod x0_3 256) % 256] : List Int)) (inner := [.int .u8 ((Int.tmod x0_3 256) % 256)]) (ok := fun _ => True) (okp := fun _ => True) ?hr ?hp (fun _ hk => hk) trivial (Below.refl _ _) (Nat.le_refl _) (by simp) ?_; (case hd => rfl); (case hg => rfl); (case hr => first | (go_simp; done) | (go_simp; rfl)); (case hp => exact (Reps.one (show Kd.M (Kd.int .u8) _ _ _ ((Int.tmod x0_3 256) % 256) [.int .u8 ((Int.tmod x0_3 256) % 256)] from rfl) (Reps.none _ _))); intro v170 w9 ho10 hb hg_ hnew_; clear hg_ hnew_; (first | rw [← Ny169.out] at ho10 | (simp only [Int.reduceToNat] at ho10; rw [← Ny169.out] at ho10)); have n0_ := Aside0.mk (Kd.R_lower ho10 (below_size (by repeat (first | (with_reducible first | exact HB.out | apply below_alloc | apply pw_below_drewN | apply below_drew1) | exact HB.out)))); have n1_ := Aside0.mk (below_step (by repeat (first | (with_reducible first | exact HB.out | apply below_alloc | apply pw_below_drewN | apply below_drew1) | exact HB.out)) hb); clear HB; have HO171 := n0_; have HB := n1_; clear n0_ n1_; clear hb ho10; have hcv11 := own_string (P := Try.prog) Try.underlying35 Try.underlying5 Try.underlying9 (Kd.own_of_R HO171.out)))
          go_roundg k3
          case measure => have := HK1.out; have := HJ3.out; have := HK3.out; omega
          case rel => exact ⟨(wrap64 (Int.tdiv x0_3 256)), ((strOfNums y169) ++ x8_3), (wrap64 (x9_3 + 1)), (by first | rfl | (simp; done) | (simp [*]; done) | exact congrArg Value.bool (nonempty_l _) | (refine congrArg (Value.int _) ?_; first | omega | (unfold Go.RowKit.wrap64; omega))), (by first | rfl | (simp; done) | (simp [*]; done) | exact congrArg Value.bool (nonempty_l _) | (refine congrArg (Value.int _) ?_; first | omega | (unfold Go.RowKit.wrap64; omega))), (by first | rfl | (simp; done) | (simp [*]; done) | exact congrArg Value.bool (nonempty_l _) | (refine congrArg (Value.int _) ?_; first | omega | (unfold Go.RowKit.wrap64; omega))), H', ⟨by have := HK1.out; have := HJ3.out; have := HK3.out; omega⟩, ⟨by repeat (first | (with_reducible first | exact HB.out | apply below_alloc | apply pw_below_drewN | apply below_drew1) | exact HB.out)⟩⟩
         ·rw [if_neg c7] at H
          have c7b0 : decide (x9_3 < a1) = false := decide_eq_false c7
          clear c7
          simp only [Option.some.injEq, Prod.mk.injEq] at H
          obtain ⟨rfl, rfl⟩ := H
          go_wp2
          go_ret2
          exact ⟨by first | rfl | (simp [errW_none, errW_some] <;> rfl) | (simp [*, errW_none, errW_some] <;> rfl), by repeat (first | (with_reducible first | exact HB.out | apply below_alloc | apply pw_below_drewN | apply below_drew1) | exact HB.out)⟩

/-! ### palaverref08_Sealed: function 14 -/
def palaverref08_Sealed.f (k : Nat) (a0 : ByteArray) : Option (ByteArray) := (palaverref01_Number.f k (a0.size : Int) 4).bind fun bt172 => ((palaverref08_More.f k 0 a0).bind fun t174 => ((palaverref01_Number.f k (wrap64 (t174)) 4).bind fun bt175 => (if bt172.1.size + bt175.1.size ≤ 9223372036854775807 then (if (bt172.1 ++ bt175.1).size + a0.size ≤ 9223372036854775807 then (some ((bt172.1 ++ bt175.1) ++ a0)) else (none)) else (none))))
theorem palaverref08_Sealed.mono : ∀ a0 k, LeO (palaverref08_Sealed.f k a0) (palaverref08_Sealed.f (k + 1) a0) := by
 intro a0 k
 unfold palaverref08_Sealed.f
 repeat' first
  | (with_reducible exact palaverref01_Number.mono _ _ _)
  | (with_reducible exact palaverref08_More.mono _ _ _)
  | (with_reducible exact LeO.refl _)
  | (with_reducible exact LeO.none _)
  | (with_reducible refine LeO.ite ?_ ?_)
  | (with_reducible refine LeO.bind ?_ (fun _ => ?_))
  | exact palaverref01_Number.mono _ _ _
  | exact palaverref08_More.mono _ _ _
  | exact LeO.none _
  | refine LeO.ite ?_ ?_
  | refine LeO.bind ?_ (fun _ => ?_)
set_option maxHeartbeats 64000000 in
set_option maxRecDepth 100000 in
theorem palaverref08_Sealed.calls (k : Nat) (a0 : ByteArray) (r : ByteArray) (w : World) (h : palaverref08_Sealed.f k a0 = some r) :
 Calls Try.prog 14 #[.string a0] w fun e w' => e = .returned (.string r) ∧ Below w.heap.size w w' := by
 have HB := Aside0.mk (Below.refl w.heap.size w)
 have H : ((palaverref01_Number.f k (a0.size : Int) 4).bind fun bt172 => ((palaverref08_More.f k 0 a0).bind fun t174 => ((palaverref01_Number.f k (wrap64 (t174)) 4).bind fun bt175 => (if bt172.1.size + bt175.1.size ≤ 9223372036854775807 then (if (bt172.1 ++ bt175.1).size + a0.size ≤ 9223372036854775807 then (some ((bt172.1 ++ bt175.1) ++ a0)) else (none)) else (none))))) = some r := h
 clear h
 replace H := Option.bind_eq_some_iff.mp H
 obtain ⟨⟨t172, t173⟩, A20, H⟩ := H
 replace H : ((palaverref08_More.f k 0 a0).bind fun t174 => ((palaverref01_Number.f k (wrap64 (t174)) 4).bind fun bt175 => (if t172.size + bt175.1.size ≤ 9223372036854775807 then (if (t172 ++ bt175.1).size + a0.size ≤ 9223372036854775807 then (some ((t172 ++ bt175.1) ++ a0)) else (none)) else (none)))) = some r := H
 have A2 := Aside0.mk A20
 clear A20
 replace H := Option.bind_eq_some_iff.mp H
 obtain ⟨t174, A30, H⟩ := H
 replace H : ((palaverref01_Number.f k (wrap64 (t174)) 4).bind fun bt175 => (if t172.size + bt175.1.size ≤ 9223372036854775807 then (if (t172 ++ bt175.1).size + a0.size ≤ 9223372036854775807 then (some ((t172 ++ bt175.1) ++ a0)) else (none)) else (none))) = some r := H
 have A3 := Aside0.mk A30
 clear A30
 replace H := Option.bind_eq_some_iff.mp H
 obtain ⟨⟨t175, t176⟩, A40, H⟩ := H
 replace H : (if t172.size + t175.size ≤ 9223372036854775807 then (if (t172 ++ t175).size + a0.size ≤ 9223372036854775807 then (some ((t172 ++ t175) ++ a0)) else (none)) else (none)) = some r := H
 have A4 := Aside0.mk A40
 clear A40
 by_cases c5 : t172.size + t175.size ≤ 9223372036854775807
 rotate_left
 ·rw [if_neg c5] at H
  exact absurd H (by simp)
 rw [if_pos c5] at H
 have c5b0 := eq_true c5
 have c5b1 : decide (t172.size + t175.size ≤ 9223372036854775807) = true := decide_eq_true c5
 try have c5b2 : (9223372036854775807 < t172.size + t175.size) = False := eq_false (Nat.not_lt.2 c5)
 by_cases c6 : (t172 ++ t175).size + a0.size ≤ 9223372036854775807
 rotate_left
 ·rw [if_neg c6] at H
  exact absurd H (by simp)
 rw [if_pos c6] at H
 have c6b0 := eq_true c6
 have c6b1 : decide ((t172 ++ t175).size + a0.size ≤ 9223372036854775807) = true := decide_eq_true c6
 try have c6b2 : (9223372036854775807 < (t172 ++ t175).size + a0.size) = False := eq_false (Nat.not_lt.2 c6)
 obtain rfl := Option.some.inj H
 go_enter Try.func14, Try.ntmps14
 go_wp2_with (first | ((with_reducible refine gate_callee (f := 18) rfl ?_); refine goesL_ (some 10) rfl rfl Try.func18 (by kernel_rfl) rfl #[.int .i64 (a0.size : Int), .int .i64 4] rfl (by (try simp only [List.map_toArray, List.map_cons, List.map_nil]); first | done | rfl | (simp only [List.length_drop, List.length_take]; rfl)) ?_; (with_reducible refine (palaverref01_Number.calls k (a0.size : Int) 4 t172 t173 _ A2.out).mono ?_); rintro e w7 ⟨rfl, hb⟩; refine ⟨_, rfl, ?_⟩; have n0_ := Aside0.mk (below_step (by repeat (first | (with_reducible first | exact HB.out | apply below_alloc | apply pw_below_drewN | apply below_drew1) | exact HB.out)) hb); clear HB; have HB := n0_; clear n0_; (try clear hb); (try clear hb2); (try clear hk); (try clear hi)) | ((with_reducible refine gate_callee (f := 10) rfl ?_); refine goesL_ (some 15) rfl rfl Try.func10 (by kernel_rfl) rfl #[.int .u32 0, .string a0] rfl (by (try simp only [List.map_toArray, List.map_cons, List.map_nil]); first | done | rfl | (simp only [List.length_drop, List.length_take]; rfl)) ?_; (with_reducible refine (palaverref08_More.calls k 0 a0 t174 _ A3.out).mono ?_); rintro e w8 ⟨rfl, hb⟩; refine ⟨_, rfl, ?_⟩; have n0_ := Aside0.mk (below_step (by repeat (first | (with_reducible first | exact HB.out | apply below_alloc | apply pw_below_drewN | apply below_drew1) | exact HB.out)) hb); clear HB; have HB := n0_; clear n0_; (try clear hb); (try clear hb2); (try clear hk); (try clear hi)) | ((with_reducible refine gate_callee (f := 18) rfl ?_); refine goesL_ (some 17) rfl rfl Try.func18 (by kernel_rfl) rfl #[.int .i64 (wrap64 (t174)), .int .i64 4] rfl (by (try simp only [List.map_toArray, List.map_cons, List.map_nil]); first | done | rfl | (simp only [List.length_drop, List.length_take]; rfl)) ?_; (with_reducible refine (palaverref01_Number.calls k (wrap64 (t174)) 4 t175 t176 _ A4.out).mono ?_); rintro e w9 ⟨rfl, hb⟩; refine ⟨_, rfl, ?_⟩; have n0_ := Aside0.mk (below_step (by repeat (first | (with_reducible first | exact HB.out | apply below_alloc | apply pw_below_drewN | apply below_drew1) | exact HB.out)) hb); clear HB; have HB := n0_; clear n0_; (try clear hb); (try clear hb2); (try clear hk); (try clear hi)))
 go_ret
 exact ⟨by first | rfl | (simp [errW_none, errW_some] <;> rfl) | (simp [*, errW_none, errW_some] <;> rfl), by repeat (first | (with_reducible first | exact HB.out | apply below_alloc | apply pw_below_drewN | apply below_drew1) | exact HB.out)⟩

/-! ### palaverref01_Value: function 23 -/
def palaverref01_Value.l0 : Nat → ByteArray → Int → Int → Option (Int)
 | 0, _, _, _ => none
 | k + 1, x0, x3, x4 => if x4 < (x0.size : Int) then (if 0 ≤ x4 then (palaverref01_Value.l0 k x0 (wrap64 ((wrap64 (256 * x3)) + (wrap64 (bt x0 x4)))) (wrap64 (x4 + 1))) else (none)) else (some x3)
def palaverref01_Value.f (k : Nat) (a0 : ByteArray) : Option (Int) := palaverref01_Value.l0 k a0 0 0
theorem palaverref01_Value.mono_l : ∀ k, (∀ y0 y1 y2, LeO (palaverref01_Value.l0 k y0 y1 y2) (palaverref01_Value.l0 (k + 1) y0 y1 y2))
 | 0 => fun _ _ _ r h => by simp [palaverref01_Value.l0] at h
 | k + 1 => by
  have ih0 := palaverref01_Value.mono_l k
  ·intro y0 y1 y2
   unfold palaverref01_Value.l0
   repeat' first
   | (with_reducible exact ih0 _ _ _)
   | (with_reducible exact LeO.refl _)
   | (with_reducible exact LeO.none _)
   | (with_reducible refine LeO.ite ?_ ?_)
   | (with_reducible refine LeO.bind ?_ (fun _ => ?_))
   | exact ih0 _ _ _
   | exact LeO.none _
   | refine LeO.ite ?_ ?_
   | refine LeO.bind ?_ (fun _ => ?_)
theorem palaverref01_Value.mono : ∀ a0 k, LeO (palaverref01_Value.f k a0) (palaverref01_Value.f (k + 1) a0) := by
 intro a0 k
 have ih0 := palaverref01_Value.mono_l k
 unfold palaverref01_Value.f
 repeat' first
  | (with_reducible exact ih0 _ _ _)
  | (with_reducible exact LeO.refl _)
  | (with_reducible exact LeO.none _)
  | (with_reducible refine LeO.ite ?_ ?_)
  | (with_reducible refine LeO.bind ?_ (fun _ => ?_))
  | exact ih0 _ _ _
  | exact LeO.none _
  | refine LeO.ite ?_ ?_
  | refine LeO.bind ?_ (fun _ => ?_)
set_option maxHeartbeats 64000000 in
set_option maxRecDepth 100000 in
theorem palaverref01_Value.calls (k : Nat) (a0 : ByteArray) (r : Int) (w : World) (h : palaverref01_Value.f k a0 = some r) :
 Calls Try.prog 23 #[.string a0] w fun e w' => e = .returned (.int .i64 r) ∧ Drawn0 w w' := by
 have H : (palaverref01_Value.l0 k a0 0 0) = some r := h
 clear h
 have H' := Aside0.mk H
 clear H
 go_enter Try.func23, Try.ntmps23
 go_wp2
 go_loopg [3, 4] k (fun kq v3 v4 w' => ∃ (x3_1 : Int) (x4_1 : Int), v3 = .int .i64 x3_1 ∧ v4 = .int .i64 x4_1 ∧ Aside0 (palaverref01_Value.l0 kq a0 x3_1 x4_1 = some r) ∧ Aside0 (kq ≤ k) ∧ Drawn0 w w')
 case atStart => exact ⟨(0), (0), (by first | rfl | (simp; done) | (simp [*]; done) | exact congrArg Value.bool (nonempty_l _) | (refine congrArg (Value.int _) ?_; first | omega | (unfold Go.RowKit.wrap64; omega))), (by first | rfl | (simp; done) | (simp [*]; done) | exact congrArg Value.bool (nonempty_l _) | (refine congrArg (Value.int _) ?_; first | omega | (unfold Go.RowKit.wrap64; omega))), H', ⟨Nat.le_refl _⟩, by repeat (first | exact Drawn0.refl _ | apply Drawn0.step)⟩
 case round =>
  clear H'
  obtain ⟨x3_1, x4_1, rfl, rfl, HA, HK1, ⟨m1, rfl⟩⟩ := hrel
  cases gk with
  | zero => exact absurd HA.out (by simp [palaverref01_Value.l0])
  | succ k1 =>
   have H := HA.out
   clear HA
   simp only [palaverref01_Value.l0] at H
   by_cases c2 : x4_1 < (a0.size : Int)
   ·rw [if_pos c2] at H
    have c2b0 : decide (x4_1 < (a0.size : Int)) = true := decide_eq_true c2
    clear c2
    by_cases c3 : 0 ≤ x4_1
    rotate_left
    ·rw [if_neg c3] at H
     exact absurd H (by simp)
    rw [if_pos c3] at H
    have c3b0 : decide (0 ≤ x4_1) = true := decide_eq_true c3
    clear c3
    have H' := Aside0.mk H
    clear H
    have p4 : 0 ≤ (x4_1 : Int) := of_decide_eq_true (by first | (with_reducible assumption) | assumption)
    have q4 : x4_1 < (a0.size : Int) := of_decide_eq_true (by first | (with_reducible assumption) | assumption)
    have hx4 := bt_at a0 x4_1
    replace p4 := eq_true p4
    replace q4 := eq_true q4
    go_wp2
    go_roundg k1
    case measure => have := HK1.out; omega
    case rel => exact ⟨(wrap64 ((wrap64 (256 * x3_1)) + (wrap64 (bt a0 x4_1)))), (wrap64 (x4_1 + 1)), (by first | rfl | (simp; done) | (simp [*]; done) | exact congrArg Value.bool (nonempty_l _) | (refine congrArg (Value.int _) ?_; first | omega | (unfold Go.RowKit.wrap64; omega))), (by first | rfl | (simp; done) | (simp [*]; done) | exact congrArg Value.bool (nonempty_l _) | (refine congrArg (Value.int _) ?_; first | omega | (unfold Go.RowKit.wrap64; omega))), H', ⟨by have := HK1.out; omega⟩, by repeat (first | exact Drawn0.refl _ | apply Drawn0.step)⟩
   ·rw [if_neg c2] at H
    have c2b0 : decide (x4_1 < (a0.size : Int)) = false := decide_eq_false c2
    clear c2
    obtain rfl := Option.some.inj H
    go_wp2
    go_ret
    exact ⟨by first | rfl | (simp; done) | (simp [*]; done) | exact congrArg Value.bool (nonempty_l _) | (refine congrArg (Value.int _) ?_; first | omega | (unfold Go.RowKit.wrap64; omega)), by repeat (first | exact Drawn0.refl _ | apply Drawn0.step)⟩

/-! ### palaverref08_Open: function 16 -/
def palaverref08_Open.j0 : Nat → ByteArray → Int → Bool → Option (ByteArray × Int × Bool)
 | 0, _, _, _ => none
 | k + 1, x0, x5, x20 => if x20 = true then (some ((⟨#[]⟩ : ByteArray), 0, false)) else (if 8 ≤ (wrap64 (8 + x5)) then (if (wrap64 (8 + x5)) ≤ (x0.size : Int) then ((palaverref08_Sealed.f k (x0.extract 8 ((wrap64 (8 + x5)) : Int).toNat)).bind fun t184 => (if 0 ≤ (wrap64 (8 + x5)) then (if t184.toList = (x0.extract 0 ((wrap64 (8 + x5)) : Int).toNat).toList then (some (x0.extract 8 ((wrap64 (8 + x5)) : Int).toNat, wrap64 (8 + x5), true)) else (some ((⟨#[]⟩ : ByteArray), 0, false))) else (none))) else (none)) else (none))
def palaverref08_Open.f (k : Nat) (a0 : ByteArray) : Option (ByteArray × Int × Bool) := if (a0.size : Int) < 8 then (some ((⟨#[]⟩ : ByteArray), 0, false)) else (if 0 ≤ 4 then (if 4 ≤ (a0.size : Int) then ((palaverref01_Value.f k (a0.extract 0 4)).bind fun t183 => (if t183 > 65535 then (palaverref08_Open.j0 k a0 t183 true) else (palaverref08_Open.j0 k a0 t183 (decide (t183 > (wrap64 ((a0.size : Int) - 8))))))) else (none)) else (none))
theorem palaverref08_Open.mono_l : ∀ k, (∀ y0 y1 y2, LeO (palaverref08_Open.j0 k y0 y1 y2) (palaverref08_Open.j0 (k + 1) y0 y1 y2))
 | 0 => fun _ _ _ r h => by simp [palaverref08_Open.j0] at h
 | k + 1 => by
  have ih0 := palaverref08_Open.mono_l k
  ·intro y0 y1 y2
   unfold palaverref08_Open.j0
   repeat' first
   | (with_reducible exact ih0 _ _ _)
   | (with_reducible exact palaverref01_Value.mono _ _)
   | (with_reducible exact palaverref08_Sealed.mono _ _)
   | (with_reducible exact LeO.refl _)
   | (with_reducible exact LeO.none _)
   | (with_reducible refine LeO.ite ?_ ?_)
   | (with_reducible refine LeO.bind ?_ (fun _ => ?_))
   | exact ih0 _ _ _
   | exact palaverref01_Value.mono _ _
   | exact palaverref08_Sealed.mono _ _
   | exact LeO.none _
   | refine LeO.ite ?_ ?_
   | refine LeO.bind ?_ (fun _ => ?_)
theorem palaverref08_Open.mono : ∀ a0 k, LeO (palaverref08_Open.f k a0) (palaverref08_Open.f (k + 1) a0) := by
 intro a0 k
 have ih0 := palaverref08_Open.mono_l k
 unfold palaverref08_Open.f
 repeat' first
  | (with_reducible exact ih0 _ _ _)
  | (with_reducible exact palaverref01_Value.mono _ _)
  | (with_reducible exact palaverref08_Sealed.mono _ _)
  | (with_reducible exact LeO.refl _)
  | (with_reducible exact LeO.none _)
  | (with_reducible refine LeO.ite ?_ ?_)
  | (with_reducible refine LeO.bind ?_ (fun _ => ?_))
  | exact ih0 _ _ _
  | exact palaverref01_Value.mono _ _
  | exact palaverref08_Sealed.mono _ _
  | exact LeO.none _
  | refine LeO.ite ?_ ?_
  | refine LeO.bind ?_ (fun _ => ?_)
def palaverref08_Open.T6 : Bool × List (List Nat × List Nat) := (true, [([], []), ([], []), ([1], [1]), ([0, 2], [0, 2]), ([3], [3]), ([], []), ([], []), ([6], [6]), ([5, 7], [5, 7]), ([4, 8], [4, 8])])
def palaverref08_Open.B6 : List Nat := [0, 0, 2, 7, 15, 0, 0, 64, 224, 511]
theorem palaverref08_Open.tab6 : rtab .any (opsOf Try.f16 6) = palaverref08_Open.T6 := by kernel_rfl
theorem palaverref08_Open.bits6 : waitsOk palaverref08_Open.T6.2 palaverref08_Open.B6 = true := by kernel_rfl
set_option maxHeartbeats 64000000 in
set_option maxRecDepth 100000 in
theorem palaverref08_Open.calls (k : Nat) (a0 : ByteArray) (r1 : ByteArray) (r2 : Int) (r3 : Bool) (w : World) (h : palaverref08_Open.f k a0 = some (r1, r2, r3)) :
 Calls Try.prog 16 #[.string a0] w fun e w' => e = .returned (.tuple #[.string r1, .int .i64 r2, .bool r3]) ∧ Below w.heap.size w w' := by
 have HB := Aside0.mk (Below.refl w.heap.size w)
 have H : (if (a0.size : Int) < 8 then (some ((⟨#[]⟩ : ByteArray), 0, false)) else (if 0 ≤ 4 then (if 4 ≤ (a0.size : Int) then ((palaverref01_Value.f k (a0.extract 0 4)).bind fun t183 => (if t183 > 65535 then (palaverref08_Open.j0 k a0 t183 true) else (palaverref08_Open.j0 k a0 t183 (decide (t183 > (wrap64 ((a0.size : Int) - 8))))))) else (none)) else (none))) = some (r1, r2, r3) := h
 clear h
 by_cases c2 : (a0.size : Int) < 8
 ·rw [if_pos c2] at H
  have c2b0 : decide ((a0.size : Int) < 8) = true := decide_eq_true c2
  have c2b1 : decide (a0.size < 8) = true := decide_eq_true (by omega)
  clear c2
  simp only [Option.some.injEq, Prod.mk.injEq] at H
  obtain ⟨rfl, rfl, rfl⟩ := H
  go_enter Try.func16, Try.ntmps16
  go_wp2
  go_ret3
  exact ⟨by first | rfl | (simp [errW_none, errW_some] <;> rfl) | (simp [*, errW_none, errW_some] <;> rfl), by repeat (first | (with_reducible first | exact HB.out | apply below_alloc | apply pw_below_drewN | apply below_drew1) | exact HB.out)⟩
 ·rw [if_neg c2] at H
  have c2b0 : decide ((a0.size : Int) < 8) = false := decide_eq_false c2
  have c2b1 : decide (a0.size < 8) = false := decide_eq_false (by omega)
  clear c2
  by_cases c3 : 0 ≤ 4
  rotate_left
  ·rw [if_neg c3] at H
   exact absurd H (by simp)
  rw [if_pos c3] at H
  have c3b0 := eq_true c3
  have c3b1 : decide (0 ≤ 4) = true := decide_eq_true c3
  clear c3
  by_cases c4 : 4 ≤ (a0.size : Int)
  rotate_left
  ·rw [if_neg c4] at H
   exact absurd H (by simp)
  rw [if_pos c4] at H
  have c4b0 := eq_true c4
  have c4b1 : decide (4 ≤ (a0.size : Int)) = true := decide_eq_true c4
  clear c4
  replace H := Option.bind_eq_some_iff.mp H
  obtain ⟨t183, A50, H⟩ := H
  replace H : (if t183 > 65535 then (palaverref08_Open.j0 k a0 t183 true) else (palaverref08_Open.j0 k a0 t183 (decide (t183 > (wrap64 ((a0.size : Int) - 8)))))) = some (r1, r2, r3) := H
  have A5 := Aside0.mk A50
  clear A50
  have HC6 := Aside0.mk H
  clear H
  go_enter Try.func16, Try.ntmps16
  go_upto_region 4 with (first | ((with_reducible refine gate_callee (f := 23) rfl ?_); refine goesL_ (some 11) rfl rfl Try.func23 (by kernel_rfl) rfl #[.string (a0.extract 0 4)] rfl (by (try simp only [List.map_toArray, List.map_cons, List.map_nil]); first | done | rfl | (simp only [List.length_drop, List.length_take]; rfl)) ?_; (with_reducible refine (palaverref01_Value.calls k (a0.extract 0 4) t183 _ A5.out).mono ?_); rintro e w' ⟨rfl, ⟨nd, rfl⟩⟩; refine ⟨_, rfl, ?_⟩))
  (try simp only [Act.put, List.setIfInBounds_toArray, List.set_cons_zero, List.set_cons_succ])
  go_cut [20] (fun v20 wc => ∃ (kq : Nat) (x20_5 : Bool), v20 = .bool x20_5 ∧ Aside0 (palaverref08_Open.j0 kq a0 t183 x20_5 = some (r1, r2, r3)) ∧ Aside0 (kq ≤ k) ∧ Aside0 (Below w.heap.size w wc))
  case first =>
   have H := HC6.out
   clear HC6
   by_cases c7 : t183 > 65535
   ·rw [if_pos c7] at H
    have c7b0 : decide (65535 < t183) = true := decide_eq_true c7
    clear c7
    (first | rw [c7b0] | (simp only [i64_w, i32_w]; rw [c7b0]) | skip)
    have H' := Aside0.mk H
    clear H
    go_wp2
    go_meet
    case rel => exact ⟨_, (true), (by first | rfl | (simp; done) | (simp [*]; done) | exact congrArg Value.bool (nonempty_l _) | (refine congrArg (Value.int _) ?_; first | omega | (unfold Go.RowKit.wrap64; omega))), H', ⟨by first | omega | exact Nat.le_refl _⟩, ⟨by repeat (first | (with_reducible first | exact HB.out | apply below_alloc | apply pw_below_drewN | apply below_drew1) | exact HB.out)⟩⟩
   ·rw [if_neg c7] at H
    have c7b0 : decide (65535 < t183) = false := decide_eq_false c7
    clear c7
    (first | rw [c7b0] | (simp only [i64_w, i32_w]; rw [c7b0]) | skip)
    have H' := Aside0.mk H
    clear H
    go_wp2
    go_meet
    case rel => exact ⟨_, (decide (t183 > (wrap64 ((a0.size : Int) - 8)))), (by first | rfl | (simp; done) | (simp [*]; done) | exact congrArg Value.bool (nonempty_l _) | (refine congrArg (Value.int _) ?_; first | omega | (unfold Go.RowKit.wrap64; omega))), H', ⟨by first | omega | exact Nat.le_refl _⟩, ⟨by repeat (first | (with_reducible first | exact HB.out | apply below_alloc | apply pw_below_drewN | apply below_drew1) | exact HB.out)⟩⟩
  case rest =>
   clear HC6
   (try clear c1); (try clear c2); (try clear c2b0); (try clear c2b1); (try clear p2); (try clear c3); (try clear c3b0); (try clear c3b1); (try clear c4); (try clear c4b0); (try clear c4b1); (try clear p6); (try clear c7); (try clear c7b0)
   obtain ⟨kq, x20_5, rfl, HA, HJ5, HB⟩ := hcut
   cases kq with
   | zero => exact absurd HA.out (by simp [palaverref08_Open.j0])
   | succ kj5 =>
    have H := HA.out
    clear HA
    simp only [palaverref08_Open.j0] at H
    by_cases c8 : x20_5 = true
    ·subst c8
     have H1 : (some ((⟨#[]⟩ : ByteArray), 0, false)) = some (r1, r2, r3) := by rw [if_pos rfl] at H; exact H
     clear H
     have H := H1
     clear H1
     simp only [Option.some.injEq, Prod.mk.injEq] at H
     obtain ⟨rfl, rfl, rfl⟩ := H
     go_wp2
     go_ret3
     exact ⟨by first | rfl | (simp [errW_none, errW_some] <;> rfl) | (simp [*, errW_none, errW_some] <;> rfl), by repeat (first | (with_reducible first | exact HB.out | apply below_alloc | apply pw_below_drewN | apply below_drew1) | exact HB.out)⟩
    ·replace c8 := Bool.eq_false_iff.mpr c8
     subst c8
     have H1 : (if 8 ≤ (wrap64 (8 + t183)) then (if (wrap64 (8 + t183)) ≤ (a0.size : Int) then ((palaverref08_Sealed.f kj5 (a0.extract 8 ((wrap64 (8 + t183)) : Int).toNat)).bind fun t184 => (if 0 ≤ (wrap64 (8 + t183)) then (if t184.toList = (a0.extract 0 ((wrap64 (8 + t183)) : Int).toNat).toList then (some (a0.extract 8 ((wrap64 (8 + t183)) : Int).toNat, wrap64 (8 + t183), true)) else (some ((⟨#[]⟩ : ByteArray), 0, false))) else (none))) else (none)) else (none)) = some (r1, r2, r3) := by rw [if_neg (show ¬ (false = true) by decide)] at H; exact H
     clear H
     have H := H1
     clear H1
     by_cases c9 : 8 ≤ (wrap64 (8 + t183))
     rotate_left
     ·rw [if_neg c9] at H
      exact absurd H (by simp)
     rw [if_pos c9] at H
     have c9b0 := eq_true c9
     have c9b1 : decide (8 ≤ (wrap64 (8 + t183))) = true := decide_eq_true c9
     by_cases c10 : (wrap64 (8 + t183)) ≤ (a0.size : Int)
     rotate_left
     ·rw [if_neg c10] at H
      exact absurd H (by simp)
     rw [if_pos c10] at H
     have c10b0 := eq_true c10
     have c10b1 : decide ((wrap64 (8 + t183)) ≤ (a0.size : Int)) = true := decide_eq_true c10
     replace H := Option.bind_eq_some_iff.mp H
     obtain ⟨t184, A110, H⟩ := H
     replace H : (if 0 ≤ (wrap64 (8 + t183)) then (if t184.toList = (a0.extract 0 ((wrap64 (8 + t183)) : Int).toNat).toList then (some (a0.extract 8 ((wrap64 (8 + t183)) : Int).toNat, wrap64 (8 + t183), true)) else (some ((⟨#[]⟩ : ByteArray), 0, false))) else (none)) = some (r1, r2, r3) := H
     have A11 := Aside0.mk A110
     clear A110
     obtain ⟨ji12, hji12⟩ : ∃ j_ : Int, (wrap64 (8 + t183)) = j_ := ⟨_, rfl⟩
     replace H : (if 0 ≤ (ji12) then (if t184.toList = (a0.extract 0 ((ji12) : Int).toNat).toList then (some (a0.extract 8 ((ji12) : Int).toNat, ji12, true)) else (some ((⟨#[]⟩ : ByteArray), 0, false))) else (none)) = some (r1, r2, r3) := by first | (rw [hji12] at H; exact H) | (simp only [hji12] at H ⊢; exact H)
     (try rw [hji12] at c9b0)
     (try rw [hji12] at c9b1)
     (try rw [hji12] at c9)
     (try rw [hji12] at c10b0)
     (try rw [hji12] at c10b1)
     (try rw [hji12] at c10)
     (try rw [hji12] at A11)
     have hji12w : (IntKind.i64.wrap (8 + t183)) = ji12 := (i64_w _).trans hji12
     by_cases c13 : 0 ≤ (ji12)
     rotate_left
     ·rw [if_neg c13] at H
      exact absurd H (by simp)
     rw [if_pos c13] at H
     have c13b0 := eq_true c13
     have c13b1 : decide (0 ≤ (ji12)) = true := decide_eq_true c13
     clear c13
     have c14b0 := eq_true (of_decide_eq_true (by first | (with_reducible assumption) | assumption) : (ji12) ≤ (a0.size : Int))
     by_cases c15 : t184.toList = (a0.extract 0 ((ji12) : Int).toNat).toList
     ·rw [if_pos c15] at H
      have c15b0 : (t184.toList == (a0.extract 0 ((ji12) : Int).toNat).toList) = true := beq_iff_eq.mpr c15
      have c15b1 : (t184.toList != (a0.extract 0 ((ji12) : Int).toNat).toList) = false := bne_eq_false_iff_eq.mpr c15
      clear c15
      have c16b0 := eq_true (of_decide_eq_true (by first | (with_reducible assumption) | assumption) : 8 ≤ (ji12))
      have c17b0 := eq_true (of_decide_eq_true (by first | (with_reducible assumption) | assumption) : (ji12) ≤ (a0.size : Int))
      simp only [Option.some.injEq, Prod.mk.injEq] at H
      obtain ⟨rfl, rfl, rfl⟩ := H
      try go_wp2
      have n0_ := Aside0.mk (below_drew1 HB.out)
      clear HB
      have HB := n0_
      clear n0_
      refine start_ (n := 10) (S := fun w' => True) (ds := []) #[false, false, false, false, false, false, false, false, false, false] (by kernel_rfl) rfl rfl trivial (fun hHeld => ?_); refine with_tabW palaverref08_Open.tab6 palaverref08_Open.bits6 (fun HT_ HW_ => ?_)
      generalize wc.drew = w18 at HB hHeld ⊢
      refine pure_ (i := 0) (N := some 21) (v := ?_) (a' := ?_) #[true, false, false, false, false, false, false, false, false, false] rfl rfl (any_of HT_.out (by kernel_rfl)) (fun _ _ _ h => h) (Or.inl ⟨by rfl, ?_⟩) ?_ ?_
      rotate_left
      ·intro w'
       go_simp
       with_reducible rfl
      rotate_left
      ·simp only [pr_]
       rfl
      refine pure_ (i := 1) (N := some 22) (v := ?_) (a' := ?_) #[true, true, false, false, false, false, false, false, false, false] rfl rfl (any_of HT_.out (by kernel_rfl)) (fun _ _ _ h => h) (Or.inl ⟨by rfl, ?_⟩) ?_ ?_
      rotate_left
      ·intro w'
       go_simp
       with_reducible rfl
      rotate_left
      ·simp only [pr_]
       rfl
      refine pure_ (i := 2) (N := some 23) (v := ?_) (a' := ?_) #[true, true, true, false, false, false, false, false, false, false] rfl rfl (any_of HT_.out (by kernel_rfl)) (fun _ _ _ h => h) (Or.inl ⟨by rfl, ?_⟩) ?_ ?_
      rotate_left
      ·intro w'
       go_simp
       with_reducible rfl
      rotate_left
      ·simp only [pr_]
       rfl
      refine pure_ (i := 3) (N := some 24) (v := ?_) (a' := ?_) #[true, true, true, true, false, false, false, false, false, false] rfl rfl (any_of HT_.out (by kernel_rfl)) (fun _ _ _ h => h) (Or.inl ⟨by rfl, ?_⟩) ?_ ?_
      rotate_left
      ·intro w'
       go_simp
       with_reducible rfl
      rotate_left
      ·simp only [pr_]
       rfl
      refine pure_ (i := 5) (N := some 26) (v := ?_) (a' := ?_) #[true, true, true, true, false, true, false, false, false, false] rfl rfl (any_of HT_.out (by kernel_rfl)) (fun _ _ _ h => h) (Or.inl ⟨by rfl, ?_⟩) ?_ ?_
      rotate_left
      ·intro w'
       go_simp
       with_reducible rfl
      rotate_left
      ·simp only [pr_]
       rfl
      refine pure_ (i := 6) (N := some 27) (v := ?_) (a' := ?_) #[true, true, true, true, false, true, true, false, false, false] rfl rfl (any_of HT_.out (by kernel_rfl)) (fun _ _ _ h => h) (Or.inl ⟨by rfl, ?_⟩) ?_ ?_
      rotate_left
      ·intro w'
       go_simp
       with_reducible rfl
      rotate_left
      ·simp only [pr_]
       rfl
      refine pure_ (i := 7) (N := some 28) (v := ?_) (a' := ?_) #[true, true, true, true, false, true, true, true, false, false] rfl rfl (any_of HT_.out (by kernel_rfl)) (fun _ _ _ h => h) (Or.inl ⟨by rfl, ?_⟩) ?_ ?_
      rotate_left
      ·intro w'
       go_simp
       with_reducible rfl
      rotate_left
      ·simp only [pr_]
       rfl
      refine pure_ (i := 8) (N := some 29) (v := ?_) (a' := ?_) #[true, true, true, true, false, true, true, true, true, false] rfl rfl (any_of HT_.out (by kernel_rfl)) (fun _ _ _ h => h) (Or.inl ⟨by rfl, ?_⟩) ?_ ?_
      rotate_left
      ·intro w'
       go_simp
       with_reducible rfl
      rotate_left
      ·simp only [pr_]
       rfl
      refine one_ (i := 4) (N := some 25) #[true, true, true, true, true, true, true, true, true, false] rfl rfl (one_of HT_.out (by kernel_rfl)) (by decide) (fun K hK => ?_)
      refine goes_ Try.func14 (by kernel_rfl) rfl #[.string (a0.extract 8 ((ji12) : Int).toNat)] (by rfl) rfl rfl (by (try simp only [List.map_toArray, List.map_cons, List.map_nil]); first | done | (simp only [hji12]; rfl) | rfl | (simp only [List.length_drop, List.length_take]; rfl)) ?_
      with_reducible refine (palaverref08_Sealed.calls kj5 (a0.extract 8 ((ji12) : Int).toNat) t184 _ A11.out).mono ?_
      rintro e w19 ⟨rfl, hb⟩
      refine ⟨_, rfl, ?_⟩
      have n0_ := Aside0.mk (below_step (by repeat (first | (with_reducible first | exact HB.out | apply below_alloc | apply pw_below_drewN | apply below_drew1) | exact HB.out)) hb)
      clear HB
      have HB := n0_
      clear n0_
      (try clear hb)
      (try clear hb2)
      (try clear hk)
      (try clear hi)
      refine hK.out _ _ trivial (fun hHeld => ?_)
      clear hK K
      refine norm_ (a' := ?_) ?_ ?_
      rotate_left
      ·show Act.put _ (some 25) _ = _
       simp only [pr_]
       rfl
      refine pure_ (i := 9) (N := some 30) (v := ?_) (a' := ?_) #[true, true, true, true, true, true, true, true, true, true] rfl rfl (any_of HT_.out (by kernel_rfl)) (fun _ _ _ h => h) (Or.inl ⟨by rfl, ?_⟩) ?_ ?_
      rotate_left
      ·intro w'
       go_simp
       with_reducible rfl
      rotate_left
      ·simp only [pr_]
       rfl
      refine done_ (done_of HT_.out (by kernel_rfl)) ?_
      try go_wp2
      go_ret3
      exact ⟨by first | rfl | (simp [errW_none, errW_some] <;> rfl) | (simp only [← hji12]; first | rfl | (simp [errW_none, errW_some] <;> rfl)) | (simp [*, errW_none, errW_some] <;> rfl), by repeat (first | (with_reducible first | exact HB.out | apply below_alloc | apply pw_below_drewN | apply below_drew1) | exact HB.out)⟩
     ·rw [if_neg c15] at H
      have c15b0 : (t184.toList == (a0.extract 0 ((ji12) : Int).toNat).toList) = false := beq_eq_false_iff_ne.mpr c15
      have c15b1 : (t184.toList != (a0.extract 0 ((ji12) : Int).toNat).toList) = true := bne_iff_ne.mpr c15
      simp only [Option.some.injEq, Prod.mk.injEq] at H
      obtain ⟨rfl, rfl, rfl⟩ := H
      try go_wp2
      have n0_ := Aside0.mk (below_drew1 HB.out)
      clear HB
      have HB := n0_
      clear n0_
      refine start_ (n := 10) (S := fun w' => True) (ds := []) #[false, false, false, false, false, false, false, false, false, false] (by kernel_rfl) rfl rfl trivial (fun hHeld => ?_); refine with_tabW palaverref08_Open.tab6 palaverref08_Open.bits6 (fun HT_ HW_ => ?_)
      generalize wc.drew = w20 at HB hHeld ⊢
      refine pure_ (i := 0) (N := some 21) (v := ?_) (a' := ?_) #[true, false, false, false, false, false, false, false, false, false] rfl rfl (any_of HT_.out (by kernel_rfl)) (fun _ _ _ h => h) (Or.inl ⟨by rfl, ?_⟩) ?_ ?_
      rotate_left
      ·intro w'
       go_simp
       with_reducible rfl
      rotate_left
      ·simp only [pr_]
       rfl
      refine pure_ (i := 1) (N := some 22) (v := ?_) (a' := ?_) #[true, true, false, false, false, false, false, false, false, false] rfl rfl (any_of HT_.out (by kernel_rfl)) (fun _ _ _ h => h) (Or.inl ⟨by rfl, ?_⟩) ?_ ?_
      rotate_left
      ·intro w'
       go_simp
       with_reducible rfl
      rotate_left
      ·simp only [pr_]
       rfl
      refine pure_ (i := 2) (N := some 23) (v := ?_) (a' := ?_) #[true, true, true, false, false, false, false, false, false, false] rfl rfl (any_of HT_.out (by kernel_rfl)) (fun _ _ _ h => h) (Or.inl ⟨by rfl, ?_⟩) ?_ ?_
      rotate_left
      ·intro w'
       go_simp
       with_reducible rfl
      rotate_left
      ·simp only [pr_]
       rfl
      refine pure_ (i := 3) (N := some 24) (v := ?_) (a' := ?_) #[true, true, true, true, false, false, false, false, false, false] rfl rfl (any_of HT_.out (by kernel_rfl)) (fun _ _ _ h => h) (Or.inl ⟨by rfl, ?_⟩) ?_ ?_
      rotate_left
      ·intro w'
       go_simp
       with_reducible rfl
      rotate_left
      ·simp only [pr_]
       rfl
      refine pure_ (i := 5) (N := some 26) (v := ?_) (a' := ?_) #[true, true, true, true, false, true, false, false, false, false] rfl rfl (any_of HT_.out (by kernel_rfl)) (fun _ _ _ h => h) (Or.inl ⟨by rfl, ?_⟩) ?_ ?_
      rotate_left
      ·intro w'
       go_simp
       with_reducible rfl
      rotate_left
      ·simp only [pr_]
       rfl
      refine pure_ (i := 6) (N := some 27) (v := ?_) (a' := ?_) #[true, true, true, true, false, true, true, false, false, false] rfl rfl (any_of HT_.out (by kernel_rfl)) (fun _ _ _ h => h) (Or.inl ⟨by rfl, ?_⟩) ?_ ?_
      rotate_left
      ·intro w'
       go_simp
       with_reducible rfl
      rotate_left
      ·simp only [pr_]
       rfl
      refine pure_ (i := 7) (N := some 28) (v := ?_) (a' := ?_) #[true, true, true, true, false, true, true, true, false, false] rfl rfl (any_of HT_.out (by kernel_rfl)) (fun _ _ _ h => h) (Or.inl ⟨by rfl, ?_⟩) ?_ ?_
      rotate_left
      ·intro w'
       go_simp
       with_reducible rfl
      rotate_left
      ·simp only [pr_]
       rfl
      refine pure_ (i := 8) (N := some 29) (v := ?_) (a' := ?_) #[true, true, true, true, false, true, true, true, true, false] rfl rfl (any_of HT_.out (by kernel_rfl)) (fun _ _ _ h => h) (Or.inl ⟨by rfl, ?_⟩) ?_ ?_
      rotate_left
      ·intro w'
       go_simp
       with_reducible rfl
      rotate_left
      ·simp only [pr_]
       rfl
      refine one_ (i := 4) (N := some 25) #[true, true, true, true, true, true, true, true, true, false] rfl rfl (one_of HT_.out (by kernel_rfl)) (by decide) (fun K hK => ?_)
      refine goes_ Try.func14 (by kernel_rfl) rfl #[.string (a0.extract 8 ((ji12) : Int).toNat)] (by rfl) rfl rfl (by (try simp only [List.map_toArray, List.map_cons, List.map_nil]); first | done | (simp only [hji12]; rfl) | rfl | (simp only [List.length_drop, List.length_take]; rfl)) ?_
      with_reducible refine (palaverref08_Sealed.calls kj5 (a0.extract 8 ((ji12) : Int).toNat) t184 _ A11.out).mono ?_
      rintro e w21 ⟨rfl, hb⟩
      refine ⟨_, rfl, ?_⟩
      have n0_ := Aside0.mk (below_step (by repeat (first | (with_reducible first | exact HB.out | apply below_alloc | apply pw_below_drewN | apply below_drew1) | exact HB.out)) hb)
      clear HB
      have HB := n0_
      clear n0_
      (try clear hb)
      (try clear hb2)
      (try clear hk)
      (try clear hi)
      refine hK.out _ _ trivial (fun hHeld => ?_)
      clear hK K
      refine norm_ (a' := ?_) ?_ ?_
      rotate_left
      ·show Act.put _ (some 25) _ = _
       simp only [pr_]
       rfl
      refine pure_ (i := 9) (N := some 30) (v := ?_) (a' := ?_) #[true, true, true, true, true, true, true, true, true, true] rfl rfl (any_of HT_.out (by kernel_rfl)) (fun _ _ _ h => h) (Or.inl ⟨by rfl, ?_⟩) ?_ ?_
      rotate_left
      ·intro w'
       go_simp
       with_reducible rfl
      rotate_left
      ·simp only [pr_]
       rfl
      refine done_ (done_of HT_.out (by kernel_rfl)) ?_
      try go_wp2
      go_ret3
      exact ⟨by first | rfl | (simp [errW_none, errW_some] <;> rfl) | (simp only [← hji12]; first | rfl | (simp [errW_none, errW_some] <;> rfl)) | (simp [*, errW_none, errW_some] <;> rfl), by repeat (first | (with_reducible first | exact HB.out | apply below_alloc | apply pw_below_drewN | apply below_drew1) | exact HB.out)⟩

end Go.Proofs.Ytippjfgjehfhhaa.PP
