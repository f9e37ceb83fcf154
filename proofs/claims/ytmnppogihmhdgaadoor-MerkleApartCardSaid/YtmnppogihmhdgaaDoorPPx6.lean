-- WRITTEN BY a program of this work (wip/ownprint.py), for this seat
import Derived.Test.YtmnppogihmhdgaaDoorPPx0
import Derived.Test.YtmnppogihmhdgaaDoorPPx2
import Derived.Test.YtmnppogihmhdgaaDoorPPx5
namespace Go.Proofs.YtmnppogihmhdgaaDoor.PP
open Go.RowKit Go.Proofs.YtmnppogihmhdgaaDoorW.PrintWords Go.Proofs.YtmnppogihmhdgaaDoorW.PrintLast Go.Proofs.YtmnppogihmhdgaaDoorW.PrintMore
attribute [local go_sem] max2_int min2_int max_two min_two max_three min_three max_four min_four   -- for this text's walks alone
set_option linter.unusedVariables false
set_option linter.unusedSimpArgs false

/-! ### merkle_Path: function 14 -/
mutual
def merkle_Path.j0 : Nat → List ByteArray → Int → Bool → Option (List ByteArray × Bool)
 | 0, _, _, _ => none
 | k + 1, x0, x1, x22 => if x22 = true then (some (([] : List ByteArray), false)) else (merkle_Path.l0 k x0 x1 ([] : List ByteArray) 1)
def merkle_Path.l0 : Nat → List ByteArray → Int → List ByteArray → Int → Option (List ByteArray × Bool)
 | 0, _, _, _, _ => none
 | k + 1, x0, x1, x6, x7 => if x7 < (x0.length : Int) then (if x7 = 0 then (none) else (if 0 ≤ (wrap64 ((Go.bits .xor .i64 (wrap64 (Int.tdiv x1 x7)) 1) * x7)) then (if (wrap64 ((Go.bits .xor .i64 (wrap64 (Int.tdiv x1 x7)) 1) * x7)) ≤ (wrap64 ((wrap64 ((Go.bits .xor .i64 (wrap64 (Int.tdiv x1 x7)) 1) * x7)) + x7)) then (if (wrap64 ((wrap64 ((Go.bits .xor .i64 (wrap64 (Int.tdiv x1 x7)) 1) * x7)) + x7)) ≤ (x0.length : Int) then ((merkle_root.f k ((x0.take ((wrap64 ((wrap64 ((Go.bits .xor .i64 (wrap64 (Int.tdiv x1 x7)) 1) * x7)) + x7)) : Int).toNat).drop ((wrap64 ((Go.bits .xor .i64 (wrap64 (Int.tdiv x1 x7)) 1) * x7)) : Int).toNat)).bind fun t171 => (if x6.length < 8796093022208 then (merkle_Path.l0 k x0 x1 (x6 ++ [t171]) (wrap64 (x7 * 2))) else (none))) else (none)) else (none)) else (none))) else (some (x6, true))
end
def merkle_Path.f (k : Nat) (l0 : List ByteArray) (a1 : Int) : Option (List ByteArray × Bool) := (merkle_leaves.f (l0.length : Int)).bind fun t169 => (if t169 = true then (if a1 < 0 then (merkle_Path.j0 k l0 a1 true) else (merkle_Path.j0 k l0 a1 (decide (a1 ≥ (l0.length : Int))))) else (merkle_Path.j0 k l0 a1 true))
theorem merkle_Path.mono_l : ∀ k, (∀ y0 y1 y2, LeO (merkle_Path.j0 k y0 y1 y2) (merkle_Path.j0 (k + 1) y0 y1 y2)) ∧ (∀ y0 y1 y2 y3, LeO (merkle_Path.l0 k y0 y1 y2 y3) (merkle_Path.l0 (k + 1) y0 y1 y2 y3))
 | 0 => ⟨fun _ _ _ r h => by simp [merkle_Path.j0] at h, fun _ _ _ _ r h => by simp [merkle_Path.l0] at h⟩
 | k + 1 => by
  obtain ⟨ih0, ih1⟩ := merkle_Path.mono_l k
  refine ⟨?_, ?_⟩
  ·intro y0 y1 y2
   unfold merkle_Path.j0
   repeat' first
   | (with_reducible exact ih0 _ _ _)
   | (with_reducible exact ih1 _ _ _ _)
   | (with_reducible exact merkle_root.mono _ _)
   | (with_reducible exact LeO.refl _)
   | (with_reducible exact LeO.none _)
   | (with_reducible refine LeO.ite ?_ ?_)
   | (with_reducible refine LeO.bind ?_ (fun _ => ?_))
   | exact ih0 _ _ _
   | exact ih1 _ _ _ _
   | exact merkle_root.mono _ _
   | exact LeO.none _
   | refine LeO.ite ?_ ?_
   | refine LeO.bind ?_ (fun _ => ?_)
  ·intro y0 y1 y2 y3
   unfold merkle_Path.l0
   repeat' first
   | (with_reducible exact ih0 _ _ _)
   | (with_reducible exact ih1 _ _ _ _)
   | (with_reducible exact merkle_root.mono _ _)
   | (with_reducible exact LeO.refl _)
   | (with_reducible exact LeO.none _)
   | (with_reducible refine LeO.ite ?_ ?_)
   | (with_reducible refine LeO.bind ?_ (fun _ => ?_))
   | exact ih0 _ _ _
   | exact ih1 _ _ _ _
   | exact merkle_root.mono _ _
   | exact LeO.none _
   | refine LeO.ite ?_ ?_
   | refine LeO.bind ?_ (fun _ => ?_)
theorem merkle_Path.mono : ∀ a0 a1 k, LeO (merkle_Path.f k a0 a1) (merkle_Path.f (k + 1) a0 a1) := by
 intro a0 a1 k
 obtain ⟨ih0, ih1⟩ := merkle_Path.mono_l k
 unfold merkle_Path.f
 repeat' first
  | (with_reducible exact ih0 _ _ _)
  | (with_reducible exact ih1 _ _ _ _)
  | (with_reducible exact merkle_root.mono _ _)
  | (with_reducible exact LeO.refl _)
  | (with_reducible exact LeO.none _)
  | (with_reducible refine LeO.ite ?_ ?_)
  | (with_reducible refine LeO.bind ?_ (fun _ => ?_))
  | exact ih0 _ _ _
  | exact ih1 _ _ _ _
  | exact merkle_root.mono _ _
  | exact LeO.none _
  | refine LeO.ite ?_ ?_
  | refine LeO.bind ?_ (fun _ => ?_)
set_option maxHeartbeats 64000000 in
set_option maxRecDepth 100000 in
theorem merkle_Path.calls (k : Nat) (A0 : Option Addr) (c0 : Nat) (l0 : List ByteArray) (a1 : Int) (r1 : List ByteArray) (r2 : Bool) (w : World) (hr0 : Kd.C Kd.string w A0 l0.length l0) (hc0 : l0.length ≤ c0) (hrG : Kd.C (Kd.int .u32) w (some ⟨0, 0, none⟩) keysL.length keysL) (h : merkle_Path.f k l0 a1 = some (r1, r2)) :
 Calls Tryd.prog 14 #[.slice A0 l0.length c0, .int .i64 a1] w fun e w' => ∃ v0_ : Value, e = .returned (.tuple #[v0_, .bool r2]) ∧ Kd.R Kd.string 9 w' w.heap.size (fun _ => True) v0_ r1 ∧ Below w.heap.size w w' := by
 have HR0 := Aside0.mk hr0
 have HC0 := Aside0.mk hc0
 clear hr0 hc0
 have HRG := Aside0.mk hrG
 clear hrG
 have HB := Aside0.mk (Below.refl w.heap.size w)
 have H : ((merkle_leaves.f (l0.length : Int)).bind fun t169 => (if t169 = true then (if a1 < 0 then (merkle_Path.j0 k l0 a1 true) else (merkle_Path.j0 k l0 a1 (decide (a1 ≥ (l0.length : Int))))) else (merkle_Path.j0 k l0 a1 true))) = some (r1, r2) := h
 clear h
 have HC3 := Aside0.mk H
 clear H
 go_enter Tryd.func14, Tryd.ntmps14
 go_upto_region 1 with (fail)
 go_cut [22] (fun v22 wc => ∃ (kq : Nat) (x22_2 : Bool), v22 = .bool x22_2 ∧ Aside0 (merkle_Path.j0 kq l0 a1 x22_2 = some (r1, r2)) ∧ Aside0 (kq ≤ k) ∧ Aside0 (Below w.heap.size w wc))
 case first =>
  have H := HC3.out
  clear HC3
  replace H := Option.bind_eq_some_iff.mp H
  obtain ⟨t169, A40, H⟩ := H
  replace H : (if t169 = true then (if a1 < 0 then (merkle_Path.j0 k l0 a1 true) else (merkle_Path.j0 k l0 a1 (decide (a1 ≥ (l0.length : Int))))) else (merkle_Path.j0 k l0 a1 true)) = some (r1, r2) := H
  have A4 := Aside0.mk A40
  clear A40
  by_cases c5 : t169 = true
  ·subst c5
   have H1 : (if a1 < 0 then (merkle_Path.j0 k l0 a1 true) else (merkle_Path.j0 k l0 a1 (decide (a1 ≥ (l0.length : Int))))) = some (r1, r2) := by rw [if_pos rfl] at H; exact H
   clear H
   have H := H1
   clear H1
   by_cases c6 : a1 < 0
   ·rw [if_pos c6] at H
    have c6b0 : decide (a1 < 0) = true := decide_eq_true c6
    clear c6
    (first | rw [c6b0] | (simp only [i64_w, i32_w]; rw [c6b0]) | skip)
    have H' := Aside0.mk H
    clear H
    go_wp2_with (first | ((with_reducible refine gate_callee (f := 21) rfl ?_); refine goesL_ (some 11) rfl rfl Tryd.func21 (by kernel_rfl) rfl #[.int .i64 (l0.length : Int)] rfl (by (try simp only [List.map_toArray, List.map_cons, List.map_nil]); first | done | rfl | (simp only [List.length_drop, List.length_take]; rfl)) ?_; (with_reducible refine (merkle_leaves.calls (l0.length : Int) true _ A4.out).mono ?_); rintro e w' ⟨rfl, ⟨nd, rfl⟩⟩; refine ⟨_, rfl, ?_⟩))
    go_meet
    case rel => exact ⟨_, (true), (by first | rfl | (simp; done) | (simp [*]; done) | exact congrArg Value.bool (nonempty_l _) | (refine congrArg (Value.int _) ?_; first | omega | (unfold Go.RowKit.wrap64; omega))), H', ⟨by first | omega | exact Nat.le_refl _⟩, ⟨by repeat (first | (with_reducible first | exact HB.out | apply below_alloc | apply pw_below_drewN | apply below_drew1) | exact HB.out)⟩⟩
   ·rw [if_neg c6] at H
    have c6b0 : decide (a1 < 0) = false := decide_eq_false c6
    clear c6
    (first | rw [c6b0] | (simp only [i64_w, i32_w]; rw [c6b0]) | skip)
    have H' := Aside0.mk H
    clear H
    go_wp2_with (first | ((with_reducible refine gate_callee (f := 21) rfl ?_); refine goesL_ (some 11) rfl rfl Tryd.func21 (by kernel_rfl) rfl #[.int .i64 (l0.length : Int)] rfl (by (try simp only [List.map_toArray, List.map_cons, List.map_nil]); first | done | rfl | (simp only [List.length_drop, List.length_take]; rfl)) ?_; (with_reducible refine (merkle_leaves.calls (l0.length : Int) true _ A4.out).mono ?_); rintro e w' ⟨rfl, ⟨nd, rfl⟩⟩; refine ⟨_, rfl, ?_⟩))
    go_meet
    case rel => exact ⟨_, (decide (a1 ≥ (l0.length : Int))), (by first | rfl | (simp; done) | (simp [*]; done) | exact congrArg Value.bool (nonempty_l _) | (refine congrArg (Value.int _) ?_; first | omega | (unfold Go.RowKit.wrap64; omega))), H', ⟨by first | omega | exact Nat.le_refl _⟩, ⟨by repeat (first | (with_reducible first | exact HB.out | apply below_alloc | apply pw_below_drewN | apply below_drew1) | exact HB.out)⟩⟩
  ·replace c5 := Bool.eq_false_iff.mpr c5
   subst c5
   have H1 : (merkle_Path.j0 k l0 a1 true) = some (r1, r2) := by rw [if_neg (show ¬ (false = true) by decide)] at H; exact H
   clear H
   have H := H1
   clear H1
   have H' := Aside0.mk H
   clear H
   go_wp2_with (first | ((with_reducible refine gate_callee (f := 21) rfl ?_); refine goesL_ (some 11) rfl rfl Tryd.func21 (by kernel_rfl) rfl #[.int .i64 (l0.length : Int)] rfl (by (try simp only [List.map_toArray, List.map_cons, List.map_nil]); first | done | rfl | (simp only [List.length_drop, List.length_take]; rfl)) ?_; (with_reducible refine (merkle_leaves.calls (l0.length : Int) false _ A4.out).mono ?_); rintro e w' ⟨rfl, ⟨nd, rfl⟩⟩; refine ⟨_, rfl, ?_⟩))
   go_meet
   case rel => exact ⟨_, (true), (by first | rfl | (simp; done) | (simp [*]; done) | exact congrArg Value.bool (nonempty_l _) | (refine congrArg (Value.int _) ?_; first | omega | (unfold Go.RowKit.wrap64; omega))), H', ⟨by first | omega | exact Nat.le_refl _⟩, ⟨by repeat (first | (with_reducible first | exact HB.out | apply below_alloc | apply pw_below_drewN | apply below_drew1) | exact HB.out)⟩⟩
 case rest =>
  clear HC3
  (try clear c1); (try clear c2); (try clear p2); (try clear c5); (try clear c6); (try clear c6b0); (try clear p6)
  obtain ⟨kq, x22_2, rfl, HA, HJ2, HB⟩ := hcut
  cases kq with
  | zero => exact absurd HA.out (by simp [merkle_Path.j0])
  | succ kj2 =>
   have H := HA.out
   clear HA
   simp only [merkle_Path.j0] at H
   by_cases c7 : x22_2 = true
   ·subst c7
    have H1 : (some (([] : List ByteArray), false)) = some (r1, r2) := by rw [if_pos rfl] at H; exact H
    clear H
    have H := H1
    clear H1
    simp only [Option.some.injEq, Prod.mk.injEq] at H
    obtain ⟨rfl, rfl⟩ := H
    go_wp2
    go_ret2
    exact ⟨_, by first | rfl | (simp [errW_none, errW_some] <;> rfl) | (simp [*, errW_none, errW_some] <;> rfl), by first | exact Kd.R_nil _ _ _ _ _ | exact Kd.N_nil _ _ _ _ _ | exact Kd.V_nil _ _ _ _ _ | exact Kd.Q_nil _ _ _ _ _ | exact Kd.S_nil _ _ _ _ _, by repeat (first | (with_reducible first | exact HB.out | apply below_alloc | apply pw_below_drewN | apply below_drew1) | exact HB.out)⟩
   ·replace c7 := Bool.eq_false_iff.mpr c7
    subst c7
    have H1 : (merkle_Path.l0 kj2 l0 a1 ([] : List ByteArray) 1) = some (r1, r2) := by rw [if_neg (show ¬ (false = true) by decide)] at H; exact H
    clear H
    have H := H1
    clear H1
    have H' := Aside0.mk H
    clear H
    go_wp2
    go_loopg [6, 7] kj2 (fun kq v6 v7 w' => ∃ (x6_2 : List ByteArray) (x7_2 : Int), v7 = .int .i64 x7_2 ∧ Aside0 (merkle_Path.l0 kq l0 a1 x6_2 x7_2 = some (r1, r2)) ∧ Aside0 (kq ≤ kj2) ∧ Aside0 (Kd.R Kd.string 9 w' w.heap.size (fun _ => True) v6 x6_2) ∧ Aside0 (Below w.heap.size w w'))
    case atStart => exact ⟨(([] : List ByteArray)), (1), (by first | rfl | (simp; done) | (simp [*]; done) | exact congrArg Value.bool (nonempty_l _) | (refine congrArg (Value.int _) ?_; first | omega | (unfold Go.RowKit.wrap64; omega))), H', ⟨Nat.le_refl _⟩, ⟨by first | exact Kd.R_nil _ _ _ _ _ | exact Kd.N_nil _ _ _ _ _ | exact Kd.V_nil _ _ _ _ _ | exact Kd.Q_nil _ _ _ _ _ | exact Kd.S_nil _ _ _ _ _⟩, ⟨by repeat (first | (with_reducible first | exact HB.out | apply below_alloc | apply pw_below_drewN | apply below_drew1) | exact HB.out)⟩⟩
    case round =>
     clear H'
     (try clear c1); (try clear c2); (try clear p2); (try clear c5); (try clear c6); (try clear c6b0); (try clear p6); (try clear c7); (try clear p2); (try clear p6)
     obtain ⟨x6_2, x7_2, rfl, HA, HK2, HO_6, HB⟩ := hrel
     cases gk with
     | zero => exact absurd HA.out (by simp [merkle_Path.l0])
     | succ k2 =>
      have H := HA.out
      clear HA
      simp only [merkle_Path.l0] at H
      by_cases c8 : x7_2 < (l0.length : Int)
      ·rw [if_pos c8] at H
       have c8b0 : decide (x7_2 < (l0.length : Int)) = true := decide_eq_true c8
       clear c8
       by_cases c9 : x7_2 = 0
       ·rw [if_pos c9] at H
        exact absurd H (by simp)
       ·rw [if_neg c9] at H
        have c9b0 : (x7_2 == 0) = false := beq_eq_false_iff_ne.mpr c9
        have c9b1 : (x7_2 != 0) = true := bne_iff_ne.mpr c9
        obtain ⟨ji10, hji10⟩ : ∃ j_ : Int, (wrap64 ((Go.bits .xor .i64 (wrap64 (Int.tdiv a1 x7_2)) 1) * x7_2)) = j_ := ⟨_, rfl⟩
        replace H : (if 0 ≤ (ji10) then (if (ji10) ≤ (wrap64 ((ji10) + x7_2)) then (if (wrap64 ((ji10) + x7_2)) ≤ (l0.length : Int) then ((merkle_root.f k2 ((l0.take ((wrap64 ((ji10) + x7_2)) : Int).toNat).drop ((ji10) : Int).toNat)).bind fun t171 => (if x6_2.length < 8796093022208 then (merkle_Path.l0 k2 l0 a1 (x6_2 ++ [t171]) (wrap64 (x7_2 * 2))) else (none))) else (none)) else (none)) else (none)) = some (r1, r2) := by first | (rw [hji10] at H; exact H) | (simp only [hji10] at H ⊢; exact H)
        have hji10w : (IntKind.i64.wrap ((Go.bits .xor .i64 (wrap64 (Int.tdiv a1 x7_2)) 1) * x7_2)) = ji10 := (i64_w _).trans hji10
        by_cases c11 : 0 ≤ (ji10)
        rotate_left
        ·rw [if_neg c11] at H
         exact absurd H (by simp)
        rw [if_pos c11] at H
        have c11b0 := eq_true c11
        have c11b1 : decide (0 ≤ (ji10)) = true := decide_eq_true c11
        clear c11
        by_cases c12 : (ji10) ≤ (wrap64 ((ji10) + x7_2))
        rotate_left
        ·rw [if_neg c12] at H
         exact absurd H (by simp)
        rw [if_pos c12] at H
        have c12b0 := eq_true c12
        have c12b1 : decide ((ji10) ≤ (wrap64 ((ji10) + x7_2))) = true := decide_eq_true c12
        by_cases c13 : (wrap64 ((ji10) + x7_2)) ≤ (l0.length : Int)
        rotate_left
        ·rw [if_neg c13] at H
         exact absurd H (by simp)
        rw [if_pos c13] at H
        have c13b0 := eq_true c13
        have c13b1 : decide ((wrap64 ((ji10) + x7_2)) ≤ (l0.length : Int)) = true := decide_eq_true c13
        replace H := Option.bind_eq_some_iff.mp H
        obtain ⟨t171, A140, H⟩ := H
        replace H : (if x6_2.length < 8796093022208 then (merkle_Path.l0 k2 l0 a1 (x6_2 ++ [t171]) (wrap64 (x7_2 * 2))) else (none)) = some (r1, r2) := H
        have A14 := Aside0.mk A140
        clear A140
        by_cases c15 : x6_2.length < 8796093022208
        rotate_left
        ·rw [if_neg c15] at H
         exact absurd H (by simp)
        rw [if_pos c15] at H
        have LMc15 := Aside0.mk c15
        clear c15
        obtain ⟨y172, hy172⟩ : ∃ y_ : List ByteArray, y_ = (x6_2 ++ [t171]) := ⟨_, rfl⟩
        replace H : (merkle_Path.l0 k2 l0 a1 y172 (wrap64 (x7_2 * 2))) = some (r1, r2) := by first | (rw [hy172]; with_reducible exact H) | (have H2_ := (Option.bind_some _ _).symm.trans H; rw [hy172]; with_reducible exact H2_) | (have H2_ := (Option.bind_some _ _).symm.trans H; with_reducible exact H2_) | with_reducible exact H | (rw [hy172]; exact H) | exact H
        have Ny172 := Aside0.mk hy172
        clear hy172
        have H' := Aside0.mk H
        clear H
        obtain ⟨i016, hi016, _, hsz16, _⟩ := info_parts info9
        obtain ⟨A16, hcut16, hA16, hC16⟩ := print_mid_of (P := Tryd.prog) Value.string (⟨#[]⟩ : ByteArray) 22 9 .i64 .i64 Tryd.underlying22 hi016 hsz16 A0 c0 l0 (ji10) (wrap64 ((ji10) + x7_2)) (of_decide_eq_true (by first | (with_reducible assumption) | assumption)) (by first | omega | exact of_decide_eq_true (by first | (with_reducible assumption) | assumption)) (of_decide_eq_true (by first | (with_reducible assumption) | assumption)) HC0.out
        have HR170 := Aside0.mk (Kd.C_of_reads (h1 := fun _ => rfl) (hA16 _ (Kd.reads_of_C HR0.out)))
        have HC170 := Aside0.mk hC16
        clear hA16 hC16 hi016 hsz16
        go_wp2_with (first | ((with_reducible refine gate_callee (f := 22) rfl ?_); refine goesL_ (some 44) rfl rfl Tryd.func22 (by kernel_rfl) rfl #[.slice A16 ((l0.take ((wrap64 ((ji10) + x7_2)) : Int).toNat).drop ((ji10) : Int).toNat).length (c0 - (ji10).toNat)] rfl (by (try simp only [List.map_toArray, List.map_cons, List.map_nil]); first | done | (rw [show ((l0.take ((wrap64 ((ji10) + x7_2)) : Int).toNat).drop ((ji10) : Int).toNat).length = ((wrap64 ((ji10) + x7_2)).toNat - (ji10).toNat) from (by rw [List.length_drop, List.length_take]; have h_ : ((wrap64 ((ji10) + x7_2)) : Int) ≤ (l0.length : Int) := of_decide_eq_true (by first | (with_reducible assumption) | assumption); omega)] <;> rfl) | (simp only [hji10]; rfl) | rfl | (simp only [List.length_drop, List.length_take]; rfl)) ?_; (with_reducible refine (merkle_root.calls k2 _ _ ((l0.take ((wrap64 ((ji10) + x7_2)) : Int).toNat).drop ((ji10) : Int).toNat) t171 _ ?side1 ?side2 ?side3 A14.out).mono ?_); (case side1 => repeat (first | exact (Kd.C_below HR170.out HB.out) | (with_reducible refine Kd.C_alloc ?_ _) | (with_reducible refine Kd.C_drewN ?_ _) | (with_reducible refine Kd.C_drew ?_))); (case side2 => exact HC170.out); (case side3 => repeat (first | exact (Kd.C_below HRG.out HB.out) | (with_reducible refine Kd.C_alloc ?_ _) | (with_reducible refine Kd.C_drewN ?_ _) | (with_reducible refine Kd.C_drew ?_))); rintro e w17 ⟨rfl, hb⟩; refine ⟨_, rfl, ?_⟩; have n0_ := Aside0.mk (Kd.R_below (by (with_reducible repeat (first | apply Kd.R_alloc | apply Kd.R_drewN | apply Kd.R_drew)); exact HO_6.out) hb); have n1_ := Aside0.mk (below_step (by repeat (first | (with_reducible first | exact HB.out | apply below_alloc | apply pw_below_drewN | apply below_drew1) | exact HB.out)) hb); clear HO_6; clear HB; have HO_6 := n0_; have HB := n1_; clear n0_ n1_; (try clear hb); (try clear hb2); (try clear hk); (try clear hi)) | ((with_reducible refine gate_builtin (b := .append) (xs := #[.tmp 33, .tmp 45]) rfl ?_); (try (refine gate_guard (by rfl) ?_; dsimp only)); at_builtin; refine Kd.R_append Kd.string (w0 := w) w.heap.size rfl (.tmp 33) (.tmp 45) 22 9 (.string ⟨#[]⟩) 16 rfl Tryd.underlying22 info9 rfl (by decide) (by omega) u6 x6_2 t171 [.string t171] (fun _ => True) (fun _ => False) rfl rfl ?aP (fun _ hk => hk.elim) ?aF ?aO ?aB ?aS ?aL ?_; (case aP => exact rfl); (case aB => exact (by repeat (first | (with_reducible first | exact HB.out | apply below_alloc | apply pw_below_drewN | apply below_drew1) | exact HB.out))); (case aF => exact (fun _ _ => trivial)); (case aO => exact (by (with_reducible repeat (first | apply Kd.R_alloc | apply Kd.R_drewN | apply Kd.R_drew)); exact HO_6.out)); (case aS => exact (below_size (by repeat (first | (with_reducible first | exact HB.out | apply below_alloc | apply pw_below_drewN | apply below_drew1) | exact HB.out)))); (case aL => have := LMc15.out; omega); intro v173 w18 ho hb hg hat; rw [← Ny172.out] at ho; have n0_ := Aside0.mk (hb); have n1_ := Aside0.mk (ho); clear HB; clear HO_6; have HB := n0_; have HO174 := n1_; clear n0_ n1_; clear ho hb hg hat))
        go_roundg k2
        case measure => have := HJ2.out; have := HK2.out; omega
        case rel => exact ⟨(y172), (wrap64 (x7_2 * 2)), (by first | rfl | (simp; done) | (simp [*]; done) | exact congrArg Value.bool (nonempty_l _) | (refine congrArg (Value.int _) ?_; first | omega | (unfold Go.RowKit.wrap64; omega))), H', ⟨by have := HJ2.out; have := HK2.out; omega⟩, ⟨by (with_reducible repeat (first | apply Kd.R_alloc | apply Kd.R_drewN | apply Kd.R_drew)); exact HO174.out⟩, ⟨by repeat (first | (with_reducible first | exact HB.out | apply below_alloc | apply pw_below_drewN | apply below_drew1) | exact HB.out)⟩⟩
      ·rw [if_neg c8] at H
       have c8b0 : decide (x7_2 < (l0.length : Int)) = false := decide_eq_false c8
       clear c8
       simp only [Option.some.injEq, Prod.mk.injEq] at H
       obtain ⟨rfl, rfl⟩ := H
       go_wp2
       go_ret2
       exact ⟨_, by first | rfl | (simp [errW_none, errW_some] <;> rfl) | (simp [*, errW_none, errW_some] <;> rfl), by (with_reducible repeat (first | apply Kd.R_alloc | apply Kd.R_drewN | apply Kd.R_drew)); exact HO_6.out, by repeat (first | (with_reducible first | exact HB.out | apply below_alloc | apply pw_below_drewN | apply below_drew1) | exact HB.out)⟩

/-! ### palaverref02_Starts: function 25 -/
def palaverref02_Starts.f : Option Unit := some ()
set_option maxHeartbeats 8000000 in
set_option maxRecDepth 100000 in
theorem palaverref02_Starts.calls (w : World) (h : palaverref02_Starts.f = some ()) :
    Calls Tryd.prog 25 #[] w fun e w' => e = .returned (.agg #[.int .u32 1779033703, .int .u32 3144134277, .int .u32 1013904242, .int .u32 2773480762, .int .u32 1359893119, .int .u32 2600822924, .int .u32 528734635, .int .u32 1541459225]) ∧ Below w.heap.size w w' := by
  go_enter Tryd.func25, Tryd.ntmps25
  go_wp2_with (first
    | ((with_reducible refine gate_dst (N := 0) rfl ?_); refine Kd.event_run (w1 := w.alloc (.cells (encs (Value.int .u32) (List.replicate 8 0)).toArray 47)) (v := .pointer (some ⟨w.heap.size, 0, none⟩)) ?hg ?hr ?_; (case hg => rfl); (case hr => first | (go_simp; done) | (go_simp; rfl)); obtain ⟨W1, hW1⟩ : ∃ W1, W1 = w.alloc (.cells (encs (Value.int .u32) (List.replicate 8 0)).toArray 47) := ⟨_, rfl⟩; rw [← hW1]; have hh : W1.heap[w.heap.size]? = some (.cells (encs (Value.int .u32) (List.replicate 8 0)).toArray 47 (0, 0)) := (by rw [hW1]; exact heap_alloc_new w _); have hb : Below w.heap.size w W1 := (by rw [hW1]; exact below_alloc (Below.refl _ _) _); clear hW1)
    | ((with_reducible refine gate_store (t := 47) (p := 0) rfl ?_); refine store_event (t := 47) (p := 0) (v := ?vo) (w1 := W1.setCells w.heap.size 0 (encs (Value.int .u32) [1779033703, 3144134277, 1013904242, 2773480762, 1359893119, 2600822924, 528734635, 1541459225])) ?hg ?ho ?hn ?hr ?_; (case ho => rfl); (case hg => rfl); (case hn => rfl); (case hr => exact store_run0 [1779033703, 3144134277, 1013904242, 2773480762, 1359893119, 2600822924, 528734635, 1541459225] rfl rfl rfl (by kernel_rfl) hh (by rfl)); intro W2 hw; have hh2 := store_heap0 (encs (Value.int .u32) [1779033703, 3144134277, 1013904242, 2773480762, 1359893119, 2600822924, 528734635, 1541459225]) hh (by rfl); have hb2 := store_below0 (encs (Value.int .u32) [1779033703, 3144134277, 1013904242, 2773480762, 1359893119, 2600822924, 528734635, 1541459225]) hb (Nat.le_refl _); rw [← hw] at hh2 hb2; clear hw hh hb))
  (try simp only [Exit.inBlock, Exit.then])
  refine bodyPost_ret (results_cell_row rfl _ _ w.heap.size 47 (encs (Value.int .u32) [1779033703, 3144134277, 1013904242, 2773480762, 1359893119, 2600822924, 528734635, 1541459225]).toArray (0, 0) _ rfl hh2 Tryd.underlying47 rfl (by kernel_rfl)) rfl ?_
  exact ⟨rfl, hb2⟩

/-! ### palaverref02_table: function 26 -/
def palaverref02_table.f : Option Unit := some ()
set_option maxHeartbeats 8000000 in
set_option maxRecDepth 100000 in
theorem palaverref02_table.calls (w : World) (h : palaverref02_table.f = some ()) :
    Calls Tryd.prog 26 #[] w fun e w' => e = .returned (.agg #[.int .u32 1116352408, .int .u32 1899447441, .int .u32 3049323471, .int .u32 3921009573, .int .u32 961987163, .int .u32 1508970993, .int .u32 2453635748, .int .u32 2870763221, .int .u32 3624381080, .int .u32 310598401, .int .u32 607225278, .int .u32 1426881987, .int .u32 1925078388, .int .u32 2162078206, .int .u32 2614888103, .int .u32 3248222580, .int .u32 3835390401, .int .u32 4022224774, .int .u32 264347078, .int .u32 604807628, .int .u32 770255983, .int .u32 1249150122, .int .u32 1555081692, .int .u32 1996064986, .int .u32 2554220882, .int .u32 2821834349, .int .u32 2952996808, .int .u32 3210313671, .int .u32 3336571891, .int .u32 3584528711, .int .u32 113926993, .int .u32 338241895, .int .u32 666307205, .int .u32 773529912, .int .u32 1294757372, .int .u32 1396182291, .int .u32 1695183700, .int .u32 1986661051, .int .u32 2177026350, .int .u32 2456956037, .int .u32 2730485921, .int .u32 2820302411, .int .u32 3259730800, .int .u32 3345764771, .int .u32 3516065817, .int .u32 3600352804, .int .u32 4094571909, .int .u32 275423344, .int .u32 430227734, .int .u32 506948616, .int .u32 659060556, .int .u32 883997877, .int .u32 958139571, .int .u32 1322822218, .int .u32 1537002063, .int .u32 1747873779, .int .u32 1955562222, .int .u32 2024104815, .int .u32 2227730452, .int .u32 2361852424, .int .u32 2428436474, .int .u32 2756734187, .int .u32 3204031479, .int .u32 3329325298]) ∧ Below w.heap.size w w' := by
  go_enter Tryd.func26, Tryd.ntmps26
  go_wp2_with (first
    | ((with_reducible refine gate_dst (N := 0) rfl ?_); refine Kd.event_run (w1 := w.alloc (.cells (encs (Value.int .u32) (List.replicate 64 0)).toArray 49)) (v := .pointer (some ⟨w.heap.size, 0, none⟩)) ?hg ?hr ?_; (case hg => rfl); (case hr => first | (go_simp; done) | (go_simp; rfl)); obtain ⟨W1, hW1⟩ : ∃ W1, W1 = w.alloc (.cells (encs (Value.int .u32) (List.replicate 64 0)).toArray 49) := ⟨_, rfl⟩; rw [← hW1]; have hh : W1.heap[w.heap.size]? = some (.cells (encs (Value.int .u32) (List.replicate 64 0)).toArray 49 (0, 0)) := (by rw [hW1]; exact heap_alloc_new w _); have hb : Below w.heap.size w W1 := (by rw [hW1]; exact below_alloc (Below.refl _ _) _); clear hW1)
    | ((with_reducible refine gate_store (t := 49) (p := 0) rfl ?_); refine store_event (t := 49) (p := 0) (v := ?vo) (w1 := W1.setCells w.heap.size 0 (encs (Value.int .u32) [1116352408, 1899447441, 3049323471, 3921009573, 961987163, 1508970993, 2453635748, 2870763221, 3624381080, 310598401, 607225278, 1426881987, 1925078388, 2162078206, 2614888103, 3248222580, 3835390401, 4022224774, 264347078, 604807628, 770255983, 1249150122, 1555081692, 1996064986, 2554220882, 2821834349, 2952996808, 3210313671, 3336571891, 3584528711, 113926993, 338241895, 666307205, 773529912, 1294757372, 1396182291, 1695183700, 1986661051, 2177026350, 2456956037, 2730485921, 2820302411, 3259730800, 3345764771, 3516065817, 3600352804, 4094571909, 275423344, 430227734, 506948616, 659060556, 883997877, 958139571, 1322822218, 1537002063, 1747873779, 1955562222, 2024104815, 2227730452, 2361852424, 2428436474, 2756734187, 3204031479, 3329325298])) ?hg ?ho ?hn ?hr ?_; (case ho => rfl); (case hg => rfl); (case hn => rfl); (case hr => exact store_run0 [1116352408, 1899447441, 3049323471, 3921009573, 961987163, 1508970993, 2453635748, 2870763221, 3624381080, 310598401, 607225278, 1426881987, 1925078388, 2162078206, 2614888103, 3248222580, 3835390401, 4022224774, 264347078, 604807628, 770255983, 1249150122, 1555081692, 1996064986, 2554220882, 2821834349, 2952996808, 3210313671, 3336571891, 3584528711, 113926993, 338241895, 666307205, 773529912, 1294757372, 1396182291, 1695183700, 1986661051, 2177026350, 2456956037, 2730485921, 2820302411, 3259730800, 3345764771, 3516065817, 3600352804, 4094571909, 275423344, 430227734, 506948616, 659060556, 883997877, 958139571, 1322822218, 1537002063, 1747873779, 1955562222, 2024104815, 2227730452, 2361852424, 2428436474, 2756734187, 3204031479, 3329325298] rfl rfl rfl (by kernel_rfl) hh (by rfl)); intro W2 hw; have hh2 := store_heap0 (encs (Value.int .u32) [1116352408, 1899447441, 3049323471, 3921009573, 961987163, 1508970993, 2453635748, 2870763221, 3624381080, 310598401, 607225278, 1426881987, 1925078388, 2162078206, 2614888103, 3248222580, 3835390401, 4022224774, 264347078, 604807628, 770255983, 1249150122, 1555081692, 1996064986, 2554220882, 2821834349, 2952996808, 3210313671, 3336571891, 3584528711, 113926993, 338241895, 666307205, 773529912, 1294757372, 1396182291, 1695183700, 1986661051, 2177026350, 2456956037, 2730485921, 2820302411, 3259730800, 3345764771, 3516065817, 3600352804, 4094571909, 275423344, 430227734, 506948616, 659060556, 883997877, 958139571, 1322822218, 1537002063, 1747873779, 1955562222, 2024104815, 2227730452, 2361852424, 2428436474, 2756734187, 3204031479, 3329325298]) hh (by rfl); have hb2 := store_below0 (encs (Value.int .u32) [1116352408, 1899447441, 3049323471, 3921009573, 961987163, 1508970993, 2453635748, 2870763221, 3624381080, 310598401, 607225278, 1426881987, 1925078388, 2162078206, 2614888103, 3248222580, 3835390401, 4022224774, 264347078, 604807628, 770255983, 1249150122, 1555081692, 1996064986, 2554220882, 2821834349, 2952996808, 3210313671, 3336571891, 3584528711, 113926993, 338241895, 666307205, 773529912, 1294757372, 1396182291, 1695183700, 1986661051, 2177026350, 2456956037, 2730485921, 2820302411, 3259730800, 3345764771, 3516065817, 3600352804, 4094571909, 275423344, 430227734, 506948616, 659060556, 883997877, 958139571, 1322822218, 1537002063, 1747873779, 1955562222, 2024104815, 2227730452, 2361852424, 2428436474, 2756734187, 3204031479, 3329325298]) hb (Nat.le_refl _); rw [← hw] at hh2 hb2; clear hw hh hb))
  (try simp only [Exit.inBlock, Exit.then])
  refine bodyPost_ret (results_cell_row rfl _ _ w.heap.size 49 (encs (Value.int .u32) [1116352408, 1899447441, 3049323471, 3921009573, 961987163, 1508970993, 2453635748, 2870763221, 3624381080, 310598401, 607225278, 1426881987, 1925078388, 2162078206, 2614888103, 3248222580, 3835390401, 4022224774, 264347078, 604807628, 770255983, 1249150122, 1555081692, 1996064986, 2554220882, 2821834349, 2952996808, 3210313671, 3336571891, 3584528711, 113926993, 338241895, 666307205, 773529912, 1294757372, 1396182291, 1695183700, 1986661051, 2177026350, 2456956037, 2730485921, 2820302411, 3259730800, 3345764771, 3516065817, 3600352804, 4094571909, 275423344, 430227734, 506948616, 659060556, 883997877, 958139571, 1322822218, 1537002063, 1747873779, 1955562222, 2024104815, 2227730452, 2361852424, 2428436474, 2756734187, 3204031479, 3329325298]).toArray (0, 0) _ rfl hh2 Tryd.underlying49 rfl (by kernel_rfl)) rfl ?_
  exact ⟨rfl, hb2⟩

/-! ### palaverref02_Padded: function 27 (walked by hand) -/
/-- How many zeros. -/
def palaverref02_Padded.zs (n : Nat) : Nat := (64 - (n + 9) % 64) % 64
/-- The length in bits, as eight bytes. -/
def palaverref02_Padded.be (n : Int) (i : Nat) : Int := n / 256 ^ (7 - i) % 256
def palaverref02_Padded.f (k : Nat) (a0 : ByteArray) : Option ByteArray :=
  if a0.size ≤ 140737488355000 then some (strOfNums (((bytesOf a0 ++ [128]) ++ List.replicate (palaverref02_Padded.zs a0.size) 0) ++ (List.range 8).map (palaverref02_Padded.be (8 * (a0.size : Int))))) else none
theorem palaverref02_Padded.mono : ∀ a0 k, LeO (palaverref02_Padded.f k a0) (palaverref02_Padded.f (k + 1) a0) := fun _ _ => LeO.refl _
theorem palaverref02_Padded.test (n : Nat) (hn : n ≤ 140737488355000) (j : Int) (h0 : 0 ≤ j) (h1 : j ≤ (palaverref02_Padded.zs n : Int)) : (j < (palaverref02_Padded.zs n : Int) → ¬ ((n : Int) + 1 + j + 8) % 64 = 0) ∧ (j = (palaverref02_Padded.zs n : Int) → ((n : Int) + 1 + j + 8) % 64 = 0) := by
  unfold palaverref02_Padded.zs at *
  omega
theorem palaverref02_Padded.next {xs pre : List Int} {n : Int} (i : Nat) (c : Int) (h : xs = pre ++ (List.range i).map (palaverref02_Padded.be n)) (hc : c = palaverref02_Padded.be n i := by rfl) : xs ++ [c] = pre ++ (List.range (i + 1)).map (palaverref02_Padded.be n) := by
  rw [List.range_succ, List.map_append, List.map_cons, List.map_nil, ← List.append_assoc, ← hc, ← h]
set_option maxHeartbeats 8000000 in
set_option maxRecDepth 100000 in
theorem palaverref02_Padded.calls (k : Nat) (a0 : ByteArray) (r : ByteArray) (w : World) (h : palaverref02_Padded.f k a0 = some r) :
    Calls Tryd.prog 27 #[.string a0] w fun e w' => e = .returned (.string r) ∧ Below w.heap.size w w' := by
  unfold palaverref02_Padded.f at h
  have hn : a0.size ≤ 140737488355000 := by
    by_cases hh : a0.size ≤ 140737488355000
    · exact hh
    · rw [if_neg hh] at h; cases h
  rw [if_pos hn] at h
  have HRr := Aside0.mk (Option.some.inj h)
  have HN := Aside0.mk hn
  obtain ⟨i0, hi, hz0, hz1, hz2⟩ := info_parts (show (Tryd.prog.info? 5).map (fun i => (i.zero, i.size, i.bytes)) = some (some (.int .u8 0), 1, 1) by kernel_rfl)
  have hu : IntKind.u64.wrap (a0.size : Int) = (a0.size : Int) := by simp only [IntKind.wrap, IntKind.bits, IntKind.signed]; simp; omega
  have hu8 : IntKind.u64.wrap (8 * (a0.size : Int)) = 8 * (a0.size : Int) := by simp only [IntKind.wrap, IntKind.bits, IntKind.signed]; simp; omega
  have hz : palaverref02_Padded.zs a0.size < 64 := by unfold palaverref02_Padded.zs; omega
  clear h hn
  go_enter Tryd.func27, Tryd.ntmps27
  go_wp2
  go_loopg [4] (palaverref02_Padded.zs a0.size) (fun kq v4 w' => ∃ x : Int, v4 = .int .i64 x ∧ Aside0 (0 ≤ x ∧ x + (kq : Int) = (palaverref02_Padded.zs a0.size : Int)) ∧ Aside0 (Below w.heap.size w w'))
  case atStart => exact ⟨0, rfl, ⟨by omega⟩, ⟨Below.refl _ _⟩⟩
  case round =>
    obtain ⟨x, rfl, HP, HB⟩ := hrel
    have hx := HP.out
    have hx0 : 0 ≤ x := hx.1
    have hx1 : x ≤ 63 := by omega
    have hn1 : (a0.size : Int) ≤ 140737488355000 := by have := HN.out; omega
    have ht := palaverref02_Padded.test a0.size HN.out x hx.1 (by omega)
    cases gk with
    | zero =>
      have hc := ht.2 (by omega)
      obtain rfl : x = (palaverref02_Padded.zs a0.size : Int) := by omega
      clear ht hx HP
      go_wp2_with (first | ((with_reducible refine gate_dst (N := 22) rfl ?_); refine convM_event (P := Tryd.prog) rfl (N := 22) rfl 9 52 5 _ rfl a0 rfl w.heap.size (below_size HB.out) Tryd.underlying9 Tryd.underlying52 Tryd.underlying5 (by have := HN.out; omega) ?_; intro v1 w1 hv hb; have HM := Aside0.mk hv; have n0_ := Aside0.mk (below_step HB.out hb); clear HB hv hb; have HB := n0_; clear n0_) | ((with_reducible refine gate_dst (N := 23) rfl ?_); refine Kd.event_run (w1 := w1.alloc (.cells (encs (Value.int .u8) [128]).toArray 5)) (v := .slice (some ⟨w1.heap.size, 0, none⟩) 1 1) ?hg ?hr ?_; (case hg => rfl); (case hr => first | (go_simp; done) | (go_simp; rfl)); have HC := Aside0.mk (lit_cells w1 (128) 5); have hbA := below_alloc (Below.refl w1.heap.size w1) (.cells (encs (Value.int .u8) [128]).toArray 5); have m0_ := Aside0.mk (HM.out.below hbA); have n0_ := Aside0.mk (below_step HB.out hbA); clear HM HB hbA; have HM := m0_; have HB := n0_; clear m0_ n0_; obtain ⟨w2, hw_⟩ : ∃ z_, z_ = w1.alloc (.cells (encs (Value.int .u8) [128]).toArray 5) := ⟨_, rfl⟩; rw [← hw_] at HM HB HC; rw [← hw_]; clear hw_) | ((with_reducible refine gate_dst (N := 24) rfl ?_); refine appendM_event (P := Tryd.prog) (base := w.heap.size) (w0 := w) rfl (N := 24) rfl _ _ 52 52 5 i0 rfl rfl Tryd.underlying52 hi hz0 hz1 hz2 rfl HM.out (below_size HB.out) HB.out ⟨w1.heap.size, 0, none⟩ 1 [128] 1 rfl rfl HC.out (by have := HN.out; simp [bytesOf_length] <;> omega) ?_; intro v3 w3 hv hb; have m0_ := Aside0.mk hv; have n0_ := Aside0.mk hb; clear HM HB HC hv hb; have HM := m0_; have HB := n0_; clear m0_ n0_) | ((with_reducible refine gate_dst (N := 27) rfl ?_); refine appendZ_event (P := Tryd.prog) (base := w.heap.size) (w0 := w) rfl (N := 27) rfl _ _ 52 3 52 5 i0 rfl rfl Tryd.underlying52 Tryd.underlying3 hi hz0 hz1 hz2 rfl HM.out (below_size HB.out) HB.out .i64 (palaverref02_Padded.zs a0.size) rfl (by have := HN.out; simp [bytesOf_length] <;> omega) ?_; intro v4_ w4 hv hb; have m0_ := Aside0.mk hv; have n0_ := Aside0.mk hb; clear HM HB hv hb; have HM := m0_; have HB := n0_; clear m0_ n0_))
      go_loopg [5, 6] 8 (fun kq v5 v6 w' => ∃ (i : Nat) (xs : List Int), v6 = .int .i64 i ∧ Aside0 (i + kq = 8) ∧ Aside0 (xs = ((bytesOf a0 ++ [128]) ++ List.replicate (palaverref02_Padded.zs a0.size) 0) ++ (List.range i).map (palaverref02_Padded.be (8 * (a0.size : Int)))) ∧ Aside0 (OwnM w' w.heap.size 5 v5 xs) ∧ Aside0 (Below w.heap.size w w'))
      case atStart => exact ⟨0, _, rfl, ⟨rfl⟩, ⟨by rw [List.range_zero, List.map_nil, List.append_nil]⟩, ⟨HM.out⟩, ⟨HB.out⟩⟩
      case round =>
        obtain ⟨i, xs, rfl, HP, HX, HM, HB⟩ := hrel
        have hxl : xs.length ≤ 140737488355200 := by have := HN.out; rw [HX.out]; simp [bytesOf_length] <;> (have := HP.out; omega)
        have HXL := Aside0.mk hxl
        clear hxl
        cases gk with
        | zero =>
          obtain rfl : i = 8 := by have := HP.out; omega
          obtain ⟨g, cap, rfl, hg, hC⟩ := HM.out.reads
          have hconv := Kd.C_string (P := Tryd.prog) Tryd.underlying52 Tryd.underlying5 Tryd.underlying9 (c := cap) hC
          go_wp2
          go_ret
          exact ⟨congrArg (fun z_ => Ending.returned (Value.string z_)) ((congrArg strOfNums HX.out).trans HRr.out), HB.out⟩
        | succ k1 =>
          have hi7 : i = 0 ∨ i = 1 ∨ i = 2 ∨ i = 3 ∨ i = 4 ∨ i = 5 ∨ i = 6 ∨ i = 7 := by have := HP.out; omega
          have hk := HP.out
          rcases hi7 with rfl | rfl | rfl | rfl | rfl | rfl | rfl | rfl
          · go_wp2_with (first | ((with_reducible refine gate_dst (N := 42) rfl ?_); refine Kd.event_run (w1 := wr.alloc (.cells (encs (Value.int .u8) [(8 * (a0.size : Int)) / 72057594037927936 % 256]).toArray 5)) (v := .slice (some ⟨wr.heap.size, 0, none⟩) 1 1) ?hg ?hr ?_; (case hg => rfl); (case hr => first | (go_simp; done) | (go_simp; rfl)); have HC := Aside0.mk (lit_cells wr ((8 * (a0.size : Int)) / 72057594037927936 % 256) 5); have hbA := below_alloc (Below.refl wr.heap.size wr) (.cells (encs (Value.int .u8) [(8 * (a0.size : Int)) / 72057594037927936 % 256]).toArray 5); have m0_ := Aside0.mk (HM.out.below hbA); have n0_ := Aside0.mk (below_step HB.out hbA); clear HM HB hbA; have HM := m0_; have HB := n0_; clear m0_ n0_; obtain ⟨w5, hw_⟩ : ∃ z_, z_ = wr.alloc (.cells (encs (Value.int .u8) [(8 * (a0.size : Int)) / 72057594037927936 % 256]).toArray 5) := ⟨_, rfl⟩; rw [← hw_] at HM HB HC; rw [← hw_]; clear hw_) | ((with_reducible refine gate_dst (N := 43) rfl ?_); refine appendM_event (P := Tryd.prog) (base := w.heap.size) (w0 := w) rfl (N := 43) rfl _ _ 52 52 5 i0 rfl rfl Tryd.underlying52 hi hz0 hz1 hz2 rfl HM.out (below_size HB.out) HB.out ⟨wr.heap.size, 0, none⟩ 1 [(8 * (a0.size : Int)) / 72057594037927936 % 256] 1 rfl rfl HC.out (by have := HXL.out; simp <;> omega) ?_; intro v6_ w6 hv hb; have m0_ := Aside0.mk hv; have n0_ := Aside0.mk hb; clear HM HB HC hv hb; have HM := m0_; have HB := n0_; clear m0_ n0_))
            go_roundg k1
            case measure => omega
            case rel => exact ⟨1, _, rfl, ⟨by omega⟩, ⟨palaverref02_Padded.next 0 _ HX.out⟩, ⟨HM.out⟩, ⟨HB.out⟩⟩
          · go_wp2_with (first | ((with_reducible refine gate_dst (N := 42) rfl ?_); refine Kd.event_run (w1 := wr.alloc (.cells (encs (Value.int .u8) [(8 * (a0.size : Int)) / 281474976710656 % 256]).toArray 5)) (v := .slice (some ⟨wr.heap.size, 0, none⟩) 1 1) ?hg ?hr ?_; (case hg => rfl); (case hr => first | (go_simp; done) | (go_simp; rfl)); have HC := Aside0.mk (lit_cells wr ((8 * (a0.size : Int)) / 281474976710656 % 256) 5); have hbA := below_alloc (Below.refl wr.heap.size wr) (.cells (encs (Value.int .u8) [(8 * (a0.size : Int)) / 281474976710656 % 256]).toArray 5); have m0_ := Aside0.mk (HM.out.below hbA); have n0_ := Aside0.mk (below_step HB.out hbA); clear HM HB hbA; have HM := m0_; have HB := n0_; clear m0_ n0_; obtain ⟨w5, hw_⟩ : ∃ z_, z_ = wr.alloc (.cells (encs (Value.int .u8) [(8 * (a0.size : Int)) / 281474976710656 % 256]).toArray 5) := ⟨_, rfl⟩; rw [← hw_] at HM HB HC; rw [← hw_]; clear hw_) | ((with_reducible refine gate_dst (N := 43) rfl ?_); refine appendM_event (P := Tryd.prog) (base := w.heap.size) (w0 := w) rfl (N := 43) rfl _ _ 52 52 5 i0 rfl rfl Tryd.underlying52 hi hz0 hz1 hz2 rfl HM.out (below_size HB.out) HB.out ⟨wr.heap.size, 0, none⟩ 1 [(8 * (a0.size : Int)) / 281474976710656 % 256] 1 rfl rfl HC.out (by have := HXL.out; simp <;> omega) ?_; intro v6_ w6 hv hb; have m0_ := Aside0.mk hv; have n0_ := Aside0.mk hb; clear HM HB HC hv hb; have HM := m0_; have HB := n0_; clear m0_ n0_))
            go_roundg k1
            case measure => omega
            case rel => exact ⟨2, _, rfl, ⟨by omega⟩, ⟨palaverref02_Padded.next 1 _ HX.out⟩, ⟨HM.out⟩, ⟨HB.out⟩⟩
          · go_wp2_with (first | ((with_reducible refine gate_dst (N := 42) rfl ?_); refine Kd.event_run (w1 := wr.alloc (.cells (encs (Value.int .u8) [(8 * (a0.size : Int)) / 1099511627776 % 256]).toArray 5)) (v := .slice (some ⟨wr.heap.size, 0, none⟩) 1 1) ?hg ?hr ?_; (case hg => rfl); (case hr => first | (go_simp; done) | (go_simp; rfl)); have HC := Aside0.mk (lit_cells wr ((8 * (a0.size : Int)) / 1099511627776 % 256) 5); have hbA := below_alloc (Below.refl wr.heap.size wr) (.cells (encs (Value.int .u8) [(8 * (a0.size : Int)) / 1099511627776 % 256]).toArray 5); have m0_ := Aside0.mk (HM.out.below hbA); have n0_ := Aside0.mk (below_step HB.out hbA); clear HM HB hbA; have HM := m0_; have HB := n0_; clear m0_ n0_; obtain ⟨w5, hw_⟩ : ∃ z_, z_ = wr.alloc (.cells (encs (Value.int .u8) [(8 * (a0.size : Int)) / 1099511627776 % 256]).toArray 5) := ⟨_, rfl⟩; rw [← hw_] at HM HB HC; rw [← hw_]; clear hw_) | ((with_reducible refine gate_dst (N := 43) rfl ?_); refine appendM_event (P := Tryd.prog) (base := w.heap.size) (w0 := w) rfl (N := 43) rfl _ _ 52 52 5 i0 rfl rfl Tryd.underlying52 hi hz0 hz1 hz2 rfl HM.out (below_size HB.out) HB.out ⟨wr.heap.size, 0, none⟩ 1 [(8 * (a0.size : Int)) / 1099511627776 % 256] 1 rfl rfl HC.out (by have := HXL.out; simp <;> omega) ?_; intro v6_ w6 hv hb; have m0_ := Aside0.mk hv; have n0_ := Aside0.mk hb; clear HM HB HC hv hb; have HM := m0_; have HB := n0_; clear m0_ n0_))
            go_roundg k1
            case measure => omega
            case rel => exact ⟨3, _, rfl, ⟨by omega⟩, ⟨palaverref02_Padded.next 2 _ HX.out⟩, ⟨HM.out⟩, ⟨HB.out⟩⟩
          · go_wp2_with (first | ((with_reducible refine gate_dst (N := 42) rfl ?_); refine Kd.event_run (w1 := wr.alloc (.cells (encs (Value.int .u8) [(8 * (a0.size : Int)) / 4294967296 % 256]).toArray 5)) (v := .slice (some ⟨wr.heap.size, 0, none⟩) 1 1) ?hg ?hr ?_; (case hg => rfl); (case hr => first | (go_simp; done) | (go_simp; rfl)); have HC := Aside0.mk (lit_cells wr ((8 * (a0.size : Int)) / 4294967296 % 256) 5); have hbA := below_alloc (Below.refl wr.heap.size wr) (.cells (encs (Value.int .u8) [(8 * (a0.size : Int)) / 4294967296 % 256]).toArray 5); have m0_ := Aside0.mk (HM.out.below hbA); have n0_ := Aside0.mk (below_step HB.out hbA); clear HM HB hbA; have HM := m0_; have HB := n0_; clear m0_ n0_; obtain ⟨w5, hw_⟩ : ∃ z_, z_ = wr.alloc (.cells (encs (Value.int .u8) [(8 * (a0.size : Int)) / 4294967296 % 256]).toArray 5) := ⟨_, rfl⟩; rw [← hw_] at HM HB HC; rw [← hw_]; clear hw_) | ((with_reducible refine gate_dst (N := 43) rfl ?_); refine appendM_event (P := Tryd.prog) (base := w.heap.size) (w0 := w) rfl (N := 43) rfl _ _ 52 52 5 i0 rfl rfl Tryd.underlying52 hi hz0 hz1 hz2 rfl HM.out (below_size HB.out) HB.out ⟨wr.heap.size, 0, none⟩ 1 [(8 * (a0.size : Int)) / 4294967296 % 256] 1 rfl rfl HC.out (by have := HXL.out; simp <;> omega) ?_; intro v6_ w6 hv hb; have m0_ := Aside0.mk hv; have n0_ := Aside0.mk hb; clear HM HB HC hv hb; have HM := m0_; have HB := n0_; clear m0_ n0_))
            go_roundg k1
            case measure => omega
            case rel => exact ⟨4, _, rfl, ⟨by omega⟩, ⟨palaverref02_Padded.next 3 _ HX.out⟩, ⟨HM.out⟩, ⟨HB.out⟩⟩
          · go_wp2_with (first | ((with_reducible refine gate_dst (N := 42) rfl ?_); refine Kd.event_run (w1 := wr.alloc (.cells (encs (Value.int .u8) [(8 * (a0.size : Int)) / 16777216 % 256]).toArray 5)) (v := .slice (some ⟨wr.heap.size, 0, none⟩) 1 1) ?hg ?hr ?_; (case hg => rfl); (case hr => first | (go_simp; done) | (go_simp; rfl)); have HC := Aside0.mk (lit_cells wr ((8 * (a0.size : Int)) / 16777216 % 256) 5); have hbA := below_alloc (Below.refl wr.heap.size wr) (.cells (encs (Value.int .u8) [(8 * (a0.size : Int)) / 16777216 % 256]).toArray 5); have m0_ := Aside0.mk (HM.out.below hbA); have n0_ := Aside0.mk (below_step HB.out hbA); clear HM HB hbA; have HM := m0_; have HB := n0_; clear m0_ n0_; obtain ⟨w5, hw_⟩ : ∃ z_, z_ = wr.alloc (.cells (encs (Value.int .u8) [(8 * (a0.size : Int)) / 16777216 % 256]).toArray 5) := ⟨_, rfl⟩; rw [← hw_] at HM HB HC; rw [← hw_]; clear hw_) | ((with_reducible refine gate_dst (N := 43) rfl ?_); refine appendM_event (P := Tryd.prog) (base := w.heap.size) (w0 := w) rfl (N := 43) rfl _ _ 52 52 5 i0 rfl rfl Tryd.underlying52 hi hz0 hz1 hz2 rfl HM.out (below_size HB.out) HB.out ⟨wr.heap.size, 0, none⟩ 1 [(8 * (a0.size : Int)) / 16777216 % 256] 1 rfl rfl HC.out (by have := HXL.out; simp <;> omega) ?_; intro v6_ w6 hv hb; have m0_ := Aside0.mk hv; have n0_ := Aside0.mk hb; clear HM HB HC hv hb; have HM := m0_; have HB := n0_; clear m0_ n0_))
            go_roundg k1
            case measure => omega
            case rel => exact ⟨5, _, rfl, ⟨by omega⟩, ⟨palaverref02_Padded.next 4 _ HX.out⟩, ⟨HM.out⟩, ⟨HB.out⟩⟩
          · go_wp2_with (first | ((with_reducible refine gate_dst (N := 42) rfl ?_); refine Kd.event_run (w1 := wr.alloc (.cells (encs (Value.int .u8) [(8 * (a0.size : Int)) / 65536 % 256]).toArray 5)) (v := .slice (some ⟨wr.heap.size, 0, none⟩) 1 1) ?hg ?hr ?_; (case hg => rfl); (case hr => first | (go_simp; done) | (go_simp; rfl)); have HC := Aside0.mk (lit_cells wr ((8 * (a0.size : Int)) / 65536 % 256) 5); have hbA := below_alloc (Below.refl wr.heap.size wr) (.cells (encs (Value.int .u8) [(8 * (a0.size : Int)) / 65536 % 256]).toArray 5); have m0_ := Aside0.mk (HM.out.below hbA); have n0_ := Aside0.mk (below_step HB.out hbA); clear HM HB hbA; have HM := m0_; have HB := n0_; clear m0_ n0_; obtain ⟨w5, hw_⟩ : ∃ z_, z_ = wr.alloc (.cells (encs (Value.int .u8) [(8 * (a0.size : Int)) / 65536 % 256]).toArray 5) := ⟨_, rfl⟩; rw [← hw_] at HM HB HC; rw [← hw_]; clear hw_) | ((with_reducible refine gate_dst (N := 43) rfl ?_); refine appendM_event (P := Tryd.prog) (base := w.heap.size) (w0 := w) rfl (N := 43) rfl _ _ 52 52 5 i0 rfl rfl Tryd.underlying52 hi hz0 hz1 hz2 rfl HM.out (below_size HB.out) HB.out ⟨wr.heap.size, 0, none⟩ 1 [(8 * (a0.size : Int)) / 65536 % 256] 1 rfl rfl HC.out (by have := HXL.out; simp <;> omega) ?_; intro v6_ w6 hv hb; have m0_ := Aside0.mk hv; have n0_ := Aside0.mk hb; clear HM HB HC hv hb; have HM := m0_; have HB := n0_; clear m0_ n0_))
            go_roundg k1
            case measure => omega
            case rel => exact ⟨6, _, rfl, ⟨by omega⟩, ⟨palaverref02_Padded.next 5 _ HX.out⟩, ⟨HM.out⟩, ⟨HB.out⟩⟩
          · go_wp2_with (first | ((with_reducible refine gate_dst (N := 42) rfl ?_); refine Kd.event_run (w1 := wr.alloc (.cells (encs (Value.int .u8) [(8 * (a0.size : Int)) / 256 % 256]).toArray 5)) (v := .slice (some ⟨wr.heap.size, 0, none⟩) 1 1) ?hg ?hr ?_; (case hg => rfl); (case hr => first | (go_simp; done) | (go_simp; rfl)); have HC := Aside0.mk (lit_cells wr ((8 * (a0.size : Int)) / 256 % 256) 5); have hbA := below_alloc (Below.refl wr.heap.size wr) (.cells (encs (Value.int .u8) [(8 * (a0.size : Int)) / 256 % 256]).toArray 5); have m0_ := Aside0.mk (HM.out.below hbA); have n0_ := Aside0.mk (below_step HB.out hbA); clear HM HB hbA; have HM := m0_; have HB := n0_; clear m0_ n0_; obtain ⟨w5, hw_⟩ : ∃ z_, z_ = wr.alloc (.cells (encs (Value.int .u8) [(8 * (a0.size : Int)) / 256 % 256]).toArray 5) := ⟨_, rfl⟩; rw [← hw_] at HM HB HC; rw [← hw_]; clear hw_) | ((with_reducible refine gate_dst (N := 43) rfl ?_); refine appendM_event (P := Tryd.prog) (base := w.heap.size) (w0 := w) rfl (N := 43) rfl _ _ 52 52 5 i0 rfl rfl Tryd.underlying52 hi hz0 hz1 hz2 rfl HM.out (below_size HB.out) HB.out ⟨wr.heap.size, 0, none⟩ 1 [(8 * (a0.size : Int)) / 256 % 256] 1 rfl rfl HC.out (by have := HXL.out; simp <;> omega) ?_; intro v6_ w6 hv hb; have m0_ := Aside0.mk hv; have n0_ := Aside0.mk hb; clear HM HB HC hv hb; have HM := m0_; have HB := n0_; clear m0_ n0_))
            go_roundg k1
            case measure => omega
            case rel => exact ⟨7, _, rfl, ⟨by omega⟩, ⟨palaverref02_Padded.next 6 _ HX.out⟩, ⟨HM.out⟩, ⟨HB.out⟩⟩
          · go_wp2_with (first | ((with_reducible refine gate_dst (N := 42) rfl ?_); refine Kd.event_run (w1 := wr.alloc (.cells (encs (Value.int .u8) [(8 * (a0.size : Int)) / 1 % 256]).toArray 5)) (v := .slice (some ⟨wr.heap.size, 0, none⟩) 1 1) ?hg ?hr ?_; (case hg => rfl); (case hr => first | (go_simp; done) | (go_simp; rfl)); have HC := Aside0.mk (lit_cells wr ((8 * (a0.size : Int)) / 1 % 256) 5); have hbA := below_alloc (Below.refl wr.heap.size wr) (.cells (encs (Value.int .u8) [(8 * (a0.size : Int)) / 1 % 256]).toArray 5); have m0_ := Aside0.mk (HM.out.below hbA); have n0_ := Aside0.mk (below_step HB.out hbA); clear HM HB hbA; have HM := m0_; have HB := n0_; clear m0_ n0_; obtain ⟨w5, hw_⟩ : ∃ z_, z_ = wr.alloc (.cells (encs (Value.int .u8) [(8 * (a0.size : Int)) / 1 % 256]).toArray 5) := ⟨_, rfl⟩; rw [← hw_] at HM HB HC; rw [← hw_]; clear hw_) | ((with_reducible refine gate_dst (N := 43) rfl ?_); refine appendM_event (P := Tryd.prog) (base := w.heap.size) (w0 := w) rfl (N := 43) rfl _ _ 52 52 5 i0 rfl rfl Tryd.underlying52 hi hz0 hz1 hz2 rfl HM.out (below_size HB.out) HB.out ⟨wr.heap.size, 0, none⟩ 1 [(8 * (a0.size : Int)) / 1 % 256] 1 rfl rfl HC.out (by have := HXL.out; simp <;> omega) ?_; intro v6_ w6 hv hb; have m0_ := Aside0.mk hv; have n0_ := Aside0.mk hb; clear HM HB HC hv hb; have HM := m0_; have HB := n0_; clear m0_ n0_))
            go_roundg k1
            case measure => omega
            case rel => exact ⟨8, _, rfl, ⟨by omega⟩, ⟨palaverref02_Padded.next 7 _ HX.out⟩, ⟨HM.out⟩, ⟨HB.out⟩⟩
    | succ k1 =>
      have hc : (((a0.size : Int) + 1 + x + 8) % 64 != 0) = true := bne_iff_ne.mpr (ht.1 (by omega))
      clear ht hx
      go_wp2
      go_roundg k1
      case measure => omega
      case rel => exact ⟨x + 1, rfl, ⟨by have := HP.out; omega⟩, ⟨HB.out⟩⟩

/-! ### palaverref02_turn: function 28 -/
def palaverref02_turn.f (a0 : Int) (a1 : Int) : Option (Int) := if 0 ≤ a1 then (some (Go.bits .or .u32 (shr .u32 a0 a1) (shl .u32 a0 ((32 - a1) % 4294967296)))) else (none)
set_option maxHeartbeats 64000000 in
set_option maxRecDepth 100000 in
theorem palaverref02_turn.calls (a0 : Int) (a1 : Int) (r : Int) (w : World) (h : palaverref02_turn.f a0 a1 = some r) :
 Calls Tryd.prog 28 #[.int .u32 a0, .int .u32 a1] w fun e w' => e = .returned (.int .u32 r) ∧ Drawn0 w w' := by
 have H : (if 0 ≤ a1 then (some (Go.bits .or .u32 (shr .u32 a0 a1) (shl .u32 a0 ((32 - a1) % 4294967296)))) else (none)) = some r := h
 clear h
 by_cases c3 : 0 ≤ a1
 rotate_left
 ·rw [if_neg c3] at H
  exact absurd H (by simp)
 rw [if_pos c3] at H
 have c3b0 := eq_true c3
 have c3b1 : decide (0 ≤ a1) = true := decide_eq_true c3
 clear c3
 obtain ⟨ji4, hji4⟩ : ∃ j_ : Int, (shr .u32 a0 a1) = j_ := ⟨_, rfl⟩
 replace H : (some (Go.bits .or .u32 (ji4) (shl .u32 a0 ((32 - a1) % 4294967296)))) = some r := by first | (rw [hji4] at H; exact H) | (simp only [hji4] at H ⊢; exact H)
 have hji4_ : (a0 / 2 ^ min a1.toNat 32) = ji4 := hji4
 have hji4z : a1 ≤ 32 → (a0 / 2 ^ a1.toNat) = ji4 := shr_small hji4
 (try (have hji4n : (0 ≤ a1) = True := eq_true (by omega)))
 obtain ⟨ji5, hji5⟩ : ∃ j_ : Int, (shl .u32 a0 ((32 - a1) % 4294967296)) = j_ := ⟨_, rfl⟩
 replace H : (some (Go.bits .or .u32 (ji4) (ji5))) = some r := by first | (rw [hji5] at H; exact H) | (simp only [hji5] at H ⊢; exact H)
 have hji5_ : (IntKind.u32.wrap (a0 * 2 ^ min ((32 - a1) % 4294967296).toNat 32)) = ji5 := hji5
 have hji5z : ((32 - a1) % 4294967296) ≤ 32 → (IntKind.u32.wrap (a0 * 2 ^ ((32 - a1) % 4294967296).toNat)) = ji5 := shl_small hji5
 (try (have hji5n : (0 ≤ ((32 - a1) % 4294967296)) = True := eq_true (by omega)))
 obtain rfl := Option.some.inj H
 go_enter Tryd.func28, Tryd.ntmps28
 go_wp2
 go_ret
 exact ⟨by first | rfl | (simp; done) | (simp only [← hji4, ← hji5] <;> (first | rfl | simp)) | (simp [*]; done) | exact congrArg Value.bool (nonempty_l _) | (refine congrArg (Value.int _) ?_; first | omega | (unfold Go.RowKit.wrap64; omega)), by repeat (first | exact Drawn0.refl _ | apply Drawn0.step)⟩

end Go.Proofs.YtmnppogihmhdgaaDoor.PP
