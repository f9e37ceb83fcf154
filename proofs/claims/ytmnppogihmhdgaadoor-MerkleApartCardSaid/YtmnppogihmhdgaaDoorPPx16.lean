-- WRITTEN BY a program of this work (wip/ownprint.py), for this seat
import Derived.Test.YtmnppogihmhdgaaDoorPPx0
import Derived.Test.YtmnppogihmhdgaaDoorPPx5
namespace Go.Proofs.YtmnppogihmhdgaaDoor.PP
open Go.RowKit Go.Proofs.YtmnppogihmhdgaaDoorW.PrintWords Go.Proofs.YtmnppogihmhdgaaDoorW.PrintLast Go.Proofs.YtmnppogihmhdgaaDoorW.PrintMore
attribute [local go_sem] max2_int min2_int max_two min_two max_three min_three max_four min_four   -- for this text's walks alone
set_option linter.unusedVariables false
set_option linter.unusedSimpArgs false

/-! ### merkle_Fold: function 19 -/
mutual
def merkle_Fold.j0 : Nat → ByteArray → Int → List ByteArray → Bool → Option (ByteArray × Bool)
 | 0, _, _, _, _ => none
 | k + 1, x0, x1, x2, x24 => if x24 = true then (some ((⟨#[]⟩ : ByteArray), false)) else (merkle_Fold.l0 k x0 x1 x2 (x2.length : Int) 0)
def merkle_Fold.l0 : Nat → ByteArray → Int → List ByteArray → Int → Int → Option (ByteArray × Bool)
 | 0, _, _, _, _, _ => none
 | k + 1, x0, x1, x25, x26, x27 => if x27 < x26 then (if 0 ≤ x27 then (if x27 < (x25.length : Int) then ((some (List.replicate 2 (⟨#[]⟩ : ByteArray) : List ByteArray)).bind fun y389 => (if y389.length = 2 then (if 0 < (y389.length : Int) then (if (Go.bits .and .i64 x1 1) = 1 then ((sha_Tag.f k 4 ([rdOf ByteArray.empty x25 x27, x0])).bind fun t394 => (merkle_Fold.l0 k t394 (x1 / 2) x25 x26 (wrap64 (x27 + 1)))) else ((sha_Tag.f k 4 ([x0, rdOf ByteArray.empty x25 x27])).bind fun t395 => (merkle_Fold.l0 k t395 (x1 / 2) x25 x26 (wrap64 (x27 + 1))))) else (none)) else (none))) else (none)) else (none)) else (some (x0, true))
end
def merkle_Fold.f (k : Nat) (a0 : ByteArray) (a1 : Int) (l2 : List ByteArray) : Option (ByteArray × Bool) := if (l2.length : Int) > 4 then (merkle_Fold.j0 k a0 a1 l2 true) else (if a1 < 0 then (merkle_Fold.j0 k a0 a1 l2 true) else (merkle_Fold.j0 k a0 a1 l2 (decide (a1 ≥ (shl .i64 1 (l2.length : Int))))))
theorem merkle_Fold.mono_l : ∀ k, (∀ y0 y1 y2 y3, LeO (merkle_Fold.j0 k y0 y1 y2 y3) (merkle_Fold.j0 (k + 1) y0 y1 y2 y3)) ∧ (∀ y0 y1 y2 y3 y4, LeO (merkle_Fold.l0 k y0 y1 y2 y3 y4) (merkle_Fold.l0 (k + 1) y0 y1 y2 y3 y4))
 | 0 => ⟨fun _ _ _ _ r h => by simp [merkle_Fold.j0] at h, fun _ _ _ _ _ r h => by simp [merkle_Fold.l0] at h⟩
 | k + 1 => by
  obtain ⟨ih0, ih1⟩ := merkle_Fold.mono_l k
  refine ⟨?_, ?_⟩
  ·intro y0 y1 y2 y3
   unfold merkle_Fold.j0
   repeat' first
   | (with_reducible exact ih0 _ _ _ _)
   | (with_reducible exact ih1 _ _ _ _ _)
   | (with_reducible exact sha_Tag.mono _ _ _)
   | (with_reducible exact LeO.refl _)
   | (with_reducible exact LeO.none _)
   | (with_reducible refine LeO.ite ?_ ?_)
   | (with_reducible refine LeO.bind ?_ (fun _ => ?_))
   | exact ih0 _ _ _ _
   | exact ih1 _ _ _ _ _
   | exact sha_Tag.mono _ _ _
   | exact LeO.none _
   | refine LeO.ite ?_ ?_
   | refine LeO.bind ?_ (fun _ => ?_)
  ·intro y0 y1 y2 y3 y4
   unfold merkle_Fold.l0
   repeat' first
   | (with_reducible exact ih0 _ _ _ _)
   | (with_reducible exact ih1 _ _ _ _ _)
   | (with_reducible exact sha_Tag.mono _ _ _)
   | (with_reducible exact LeO.refl _)
   | (with_reducible exact LeO.none _)
   | (with_reducible refine LeO.ite ?_ ?_)
   | (with_reducible refine LeO.bind ?_ (fun _ => ?_))
   | exact ih0 _ _ _ _
   | exact ih1 _ _ _ _ _
   | exact sha_Tag.mono _ _ _
   | exact LeO.none _
   | refine LeO.ite ?_ ?_
   | refine LeO.bind ?_ (fun _ => ?_)
theorem merkle_Fold.mono : ∀ a0 a1 a2 k, LeO (merkle_Fold.f k a0 a1 a2) (merkle_Fold.f (k + 1) a0 a1 a2) := by
 intro a0 a1 a2 k
 obtain ⟨ih0, ih1⟩ := merkle_Fold.mono_l k
 unfold merkle_Fold.f
 repeat' first
  | (with_reducible exact ih0 _ _ _ _)
  | (with_reducible exact ih1 _ _ _ _ _)
  | (with_reducible exact sha_Tag.mono _ _ _)
  | (with_reducible exact LeO.refl _)
  | (with_reducible exact LeO.none _)
  | (with_reducible refine LeO.ite ?_ ?_)
  | (with_reducible refine LeO.bind ?_ (fun _ => ?_))
  | exact ih0 _ _ _ _
  | exact ih1 _ _ _ _ _
  | exact sha_Tag.mono _ _ _
  | exact LeO.none _
  | refine LeO.ite ?_ ?_
  | refine LeO.bind ?_ (fun _ => ?_)
set_option maxHeartbeats 64000000 in
set_option maxRecDepth 100000 in
theorem merkle_Fold.calls (k : Nat) (a0 : ByteArray) (a1 : Int) (A2 : Option Addr) (c2 : Nat) (l2 : List ByteArray) (r1 : ByteArray) (r2 : Bool) (w : World) (hr2 : Kd.C Kd.string w A2 l2.length l2) (hc2 : l2.length ≤ c2) (hrG : Kd.C (Kd.int .u32) w (some ⟨0, 0, none⟩) keysL.length keysL) (h : merkle_Fold.f k a0 a1 l2 = some (r1, r2)) :
 Calls Tryd.prog 19 #[.string a0, .int .i64 a1, .slice A2 l2.length c2] w fun e w' => e = .returned (.tuple #[.string r1, .bool r2]) ∧ Below w.heap.size w w' := by
 have hu53 := Tryd.underlying53
 have HR2 := Aside0.mk hr2
 have HC2 := Aside0.mk hc2
 clear hr2 hc2
 have HRG := Aside0.mk hrG
 clear hrG
 have HB := Aside0.mk (Below.refl w.heap.size w)
 have H : (if (l2.length : Int) > 4 then (merkle_Fold.j0 k a0 a1 l2 true) else (if a1 < 0 then (merkle_Fold.j0 k a0 a1 l2 true) else (merkle_Fold.j0 k a0 a1 l2 (decide (a1 ≥ (shl .i64 1 (l2.length : Int))))))) = some (r1, r2) := h
 clear h
 have HC4 := Aside0.mk H
 clear H
 go_enter Tryd.func19, Tryd.ntmps19
 go_upto_region 1 with (fail)
 go_cut [24] (fun v24 wc => ∃ (kq : Nat) (x24_3 : Bool), v24 = .bool x24_3 ∧ Aside0 (merkle_Fold.j0 kq a0 a1 l2 x24_3 = some (r1, r2)) ∧ Aside0 (kq ≤ k) ∧ Aside0 (Below w.heap.size w wc))
 case first =>
  have H := HC4.out
  clear HC4
  by_cases c5 : (l2.length : Int) > 4
  ·rw [if_pos c5] at H
   have c5b0 : decide (4 < (l2.length : Int)) = true := decide_eq_true c5
   have c5b1 : decide (4 < l2.length) = true := decide_eq_true (by omega)
   clear c5
   (first | rw [c5b0] | (simp only [i64_w, i32_w]; rw [c5b0]) | skip)
   have H' := Aside0.mk H
   clear H
   go_wp2
   go_meet
   case rel => exact ⟨_, (true), (by first | rfl | (simp; done) | (simp [*]; done) | exact congrArg Value.bool (nonempty_l _) | (refine congrArg (Value.int _) ?_; first | omega | (unfold Go.RowKit.wrap64; omega))), H', ⟨by first | omega | exact Nat.le_refl _⟩, ⟨by repeat (first | (with_reducible first | exact HB.out | apply below_alloc | apply pw_below_drewN | apply below_drew1) | exact HB.out)⟩⟩
  ·rw [if_neg c5] at H
   have c5b0 : decide (4 < (l2.length : Int)) = false := decide_eq_false c5
   have c5b1 : decide (4 < l2.length) = false := decide_eq_false (by omega)
   clear c5
   (first | rw [c5b0] | (simp only [i64_w, i32_w]; rw [c5b0]) | skip)
   by_cases c6 : a1 < 0
   ·rw [if_pos c6] at H
    have c6b0 : decide (a1 < 0) = true := decide_eq_true c6
    clear c6
    have H' := Aside0.mk H
    clear H
    go_wp2
    go_meet
    case rel => exact ⟨_, (true), (by first | rfl | (simp; done) | (simp [*]; done) | exact congrArg Value.bool (nonempty_l _) | (refine congrArg (Value.int _) ?_; first | omega | (unfold Go.RowKit.wrap64; omega))), H', ⟨by first | omega | exact Nat.le_refl _⟩, ⟨by repeat (first | (with_reducible first | exact HB.out | apply below_alloc | apply pw_below_drewN | apply below_drew1) | exact HB.out)⟩⟩
   ·rw [if_neg c6] at H
    have c6b0 : decide (a1 < 0) = false := decide_eq_false c6
    clear c6
    obtain ⟨ji7, hji7⟩ : ∃ j_ : Int, (shl .i64 1 (l2.length : Int)) = j_ := ⟨_, rfl⟩
    replace H : (merkle_Fold.j0 k a0 a1 l2 (decide (a1 ≥ (ji7)))) = some (r1, r2) := by first | (rw [hji7] at H; exact H) | (simp only [hji7] at H ⊢; exact H)
    have hji7_ : (IntKind.i64.wrap (1 * 2 ^ min (l2.length : Int).toNat 64)) = ji7 := hji7
    have hji7z : (l2.length : Int) ≤ 64 → (IntKind.i64.wrap (1 * 2 ^ (l2.length : Int).toNat)) = ji7 := shl_small hji7
    (try (have hji7n : (0 ≤ (l2.length : Int)) = True := eq_true (by omega)))
    have hji7p : (IntKind.i64.wrap (1 * 2 ^ min l2.length 64)) = ji7 := hji7_
    have hji7q : (l2.length : Int) ≤ 64 → (IntKind.i64.wrap (1 * 2 ^ l2.length)) = ji7 := hji7z
    have hji7r : (IntKind.i64.wrap (2 ^ min l2.length 64)) = ji7 := by have h_ := hji7p; rw [Int.one_mul] at h_; exact h_
    have hji7s : (l2.length : Int) ≤ 64 → (IntKind.i64.wrap (2 ^ l2.length)) = ji7 := fun hle_ => by have h_ := hji7q hle_; rw [Int.one_mul] at h_; exact h_
    have hji7u : (IntKind.i64.wrap (2 ^ min (l2.length : Int).toNat 64)) = ji7 := by have h_ := hji7_; rw [Int.one_mul] at h_; exact h_
    have hji7v : (l2.length : Int) ≤ 64 → (IntKind.i64.wrap (2 ^ (l2.length : Int).toNat)) = ji7 := fun hle_ => by have h_ := hji7z hle_; rw [Int.one_mul] at h_; exact h_
    have hji7y : (wrap64 (1 * 2 ^ min (l2.length : Int).toNat 64)) = ji7 := (i64_w _).symm.trans hji7_
    have hji7x : (l2.length : Int) ≤ 64 → (wrap64 (1 * 2 ^ (l2.length : Int).toNat)) = ji7 := fun h_ => (i64_w _).symm.trans (hji7z h_)
    have H' := Aside0.mk H
    clear H
    go_wp2
    go_meet
    case rel => exact ⟨_, (decide (a1 ≥ (ji7))), (by first | rfl | (simp; done) | (simp only [← hji7] <;> (first | rfl | simp)) | (simp [*]; done) | exact congrArg Value.bool (nonempty_l _) | (refine congrArg (Value.int _) ?_; first | omega | (unfold Go.RowKit.wrap64; omega))), H', ⟨by first | omega | exact Nat.le_refl _⟩, ⟨by repeat (first | (with_reducible first | exact HB.out | apply below_alloc | apply pw_below_drewN | apply below_drew1) | exact HB.out)⟩⟩
 case rest =>
  clear HC4
  (try clear c1); (try clear c2); (try clear p2); (try clear c5); (try clear c5b0); (try clear c5b1); (try clear c6); (try clear c6b0); (try clear p6)
  obtain ⟨kq, x24_3, rfl, HA, HJ3, HB⟩ := hcut
  cases kq with
  | zero => exact absurd HA.out (by simp [merkle_Fold.j0])
  | succ kj3 =>
   have H := HA.out
   clear HA
   simp only [merkle_Fold.j0] at H
   by_cases c8 : x24_3 = true
   ·subst c8
    have H1 : (some ((⟨#[]⟩ : ByteArray), false)) = some (r1, r2) := by rw [if_pos rfl] at H; exact H
    clear H
    have H := H1
    clear H1
    simp only [Option.some.injEq, Prod.mk.injEq] at H
    obtain ⟨rfl, rfl⟩ := H
    go_wp2
    go_ret2
    exact ⟨by first | rfl | (simp [errW_none, errW_some] <;> rfl) | (simp [*, errW_none, errW_some] <;> rfl), by repeat (first | (with_reducible first | exact HB.out | apply below_alloc | apply pw_below_drewN | apply below_drew1) | exact HB.out)⟩
   ·replace c8 := Bool.eq_false_iff.mpr c8
    subst c8
    have H1 : (merkle_Fold.l0 kj3 a0 a1 l2 (l2.length : Int) 0) = some (r1, r2) := by rw [if_neg (show ¬ (false = true) by decide)] at H; exact H
    clear H
    have H := H1
    clear H1
    have H' := Aside0.mk H
    clear H
    go_wp2
    go_loopg [0, 1, 27] kj3 (fun kq v0 v1 v27 w' => ∃ (x0_2 : ByteArray) (x1_2 : Int) (x27_2 : Int), v0 = .string x0_2 ∧ v1 = .int .i64 x1_2 ∧ v27 = .int .i64 x27_2 ∧ Aside0 (merkle_Fold.l0 kq x0_2 x1_2 l2 (l2.length : Int) x27_2 = some (r1, r2)) ∧ Aside0 (kq ≤ kj3) ∧ Aside0 (Below w.heap.size w w'))
    case atStart => exact ⟨(a0), (a1), (0), (by first | rfl | (simp; done) | (simp [*]; done) | exact congrArg Value.bool (nonempty_l _) | (refine congrArg (Value.int _) ?_; first | omega | (unfold Go.RowKit.wrap64; omega))), (by first | rfl | (simp; done) | (simp [*]; done) | exact congrArg Value.bool (nonempty_l _) | (refine congrArg (Value.int _) ?_; first | omega | (unfold Go.RowKit.wrap64; omega))), (by first | rfl | (simp; done) | (simp [*]; done) | exact congrArg Value.bool (nonempty_l _) | (refine congrArg (Value.int _) ?_; first | omega | (unfold Go.RowKit.wrap64; omega))), H', ⟨Nat.le_refl _⟩, ⟨by repeat (first | (with_reducible first | exact HB.out | apply below_alloc | apply pw_below_drewN | apply below_drew1) | exact HB.out)⟩⟩
    case round =>
     clear H'
     (try clear c1); (try clear c2); (try clear p2); (try clear c5); (try clear c5b0); (try clear c5b1); (try clear c6); (try clear c6b0); (try clear p6); (try clear c8); (try clear p2); (try clear p6)
     obtain ⟨x0_2, x1_2, x27_2, rfl, rfl, rfl, HA, HK2, HB⟩ := hrel
     cases gk with
     | zero => exact absurd HA.out (by simp [merkle_Fold.l0])
     | succ k2 =>
      have H := HA.out
      clear HA
      simp only [merkle_Fold.l0] at H
      by_cases c9 : x27_2 < (l2.length : Int)
      ·rw [if_pos c9] at H
       have c9b0 : decide (x27_2 < (l2.length : Int)) = true := decide_eq_true c9
       clear c9
       by_cases c10 : 0 ≤ x27_2
       rotate_left
       ·rw [if_neg c10] at H
        exact absurd H (by simp)
       rw [if_pos c10] at H
       have c10b0 : decide (0 ≤ x27_2) = true := decide_eq_true c10
       clear c10
       by_cases c11 : x27_2 < (l2.length : Int)
       rotate_left
       ·rw [if_neg c11] at H
        exact absurd H (by simp)
       rw [if_pos c11] at H
       have c11b0 : decide (x27_2 < (l2.length : Int)) = true := decide_eq_true c11
       clear c11
       obtain ⟨y389, hy389⟩ : ∃ y_ : List ByteArray, y_ = (List.replicate 2 (⟨#[]⟩ : ByteArray)) := ⟨_, rfl⟩
       replace H : (if y389.length = 2 then (if 0 < (y389.length : Int) then (if (Go.bits .and .i64 x1_2 1) = 1 then ((sha_Tag.f k2 4 ([rdOf ByteArray.empty l2 x27_2, x0_2])).bind fun t394 => (merkle_Fold.l0 k2 t394 (x1_2 / 2) l2 (l2.length : Int) (wrap64 (x27_2 + 1)))) else ((sha_Tag.f k2 4 ([x0_2, rdOf ByteArray.empty l2 x27_2])).bind fun t395 => (merkle_Fold.l0 k2 t395 (x1_2 / 2) l2 (l2.length : Int) (wrap64 (x27_2 + 1))))) else (none)) else (none)) = some (r1, r2) := by first | (rw [hy389]; with_reducible exact H) | (have H2_ := (Option.bind_some _ _).symm.trans H; rw [hy389]; with_reducible exact H2_) | (have H2_ := (Option.bind_some _ _).symm.trans H; with_reducible exact H2_) | with_reducible exact H | (rw [hy389]; exact H) | exact H
       have Ny389 := Aside0.mk hy389
       clear hy389
       by_cases c12 : y389.length = 2
       rotate_left
       ·rw [if_neg c12] at H
        exact absurd H (by simp)
       rw [if_pos c12] at H
       have c12b0 := eq_true c12
       have c12b1 : decide (y389.length = 2) = true := decide_eq_true c12
       clear c12
       by_cases c13 : 0 < (y389.length : Int)
       rotate_left
       ·rw [if_neg c13] at H
        exact absurd H (by simp)
       rw [if_pos c13] at H
       have c13b0 : decide (0 < (y389.length : Int)) = true := decide_eq_true c13
       have c13b1 : decide (0 < y389.length) = true := decide_eq_true (by omega)
       clear c13
       obtain ⟨y392, hy392⟩ : ∃ y_ : List ByteArray, y_ = ([x0_2, rdOf ByteArray.empty l2 x27_2]) := ⟨_, rfl⟩
       replace H : (if (Go.bits .and .i64 x1_2 1) = 1 then ((sha_Tag.f k2 4 ([rdOf ByteArray.empty l2 x27_2, x0_2])).bind fun t394 => (merkle_Fold.l0 k2 t394 (x1_2 / 2) l2 (l2.length : Int) (wrap64 (x27_2 + 1)))) else ((sha_Tag.f k2 4 y392).bind fun t395 => (merkle_Fold.l0 k2 t395 (x1_2 / 2) l2 (l2.length : Int) (wrap64 (x27_2 + 1))))) = some (r1, r2) := by first | (rw [hy392]; with_reducible exact H) | (have H2_ := (Option.bind_some _ _).symm.trans H; rw [hy392]; with_reducible exact H2_) | (have H2_ := (Option.bind_some _ _).symm.trans H; with_reducible exact H2_) | with_reducible exact H | (rw [hy392]; exact H) | exact H
       have Ny392 := Aside0.mk hy392
       clear hy392
       by_cases c15 : (Go.bits .and .i64 x1_2 1) = 1
       ·rw [if_pos c15] at H
        have c15b0 : ((Go.bits .and .i64 x1_2 1) == 1) = true := beq_iff_eq.mpr c15
        have c15b1 : ((Go.bits .and .i64 x1_2 1) != 1) = false := bne_eq_false_iff_eq.mpr c15
        clear c15
        obtain ⟨y393, hy393⟩ : ∃ y_ : List ByteArray, y_ = ([rdOf ByteArray.empty l2 x27_2, x0_2]) := ⟨_, rfl⟩
        replace H : ((sha_Tag.f k2 4 y393).bind fun t394 => (merkle_Fold.l0 k2 t394 (x1_2 / 2) l2 (l2.length : Int) (wrap64 (x27_2 + 1)))) = some (r1, r2) := by first | (rw [hy393]; with_reducible exact H) | (have H2_ := (Option.bind_some _ _).symm.trans H; rw [hy393]; with_reducible exact H2_) | (have H2_ := (Option.bind_some _ _).symm.trans H; with_reducible exact H2_) | with_reducible exact H | (rw [hy393]; exact H) | exact H
        have Ny393 := Aside0.mk hy393
        clear hy393
        replace H := Option.bind_eq_some_iff.mp H
        obtain ⟨t394, A180, H⟩ := H
        replace H : (merkle_Fold.l0 k2 t394 (x1_2 / 2) l2 (l2.length : Int) (wrap64 (x27_2 + 1))) = some (r1, r2) := H
        have A18 := Aside0.mk A180
        clear A180
        have H' := Aside0.mk H
        clear H
        have p388 : 0 ≤ (x27_2 : Int) := of_decide_eq_true (by first | (with_reducible assumption) | assumption)
        have q388 : x27_2 < (l2.length : Int) := of_decide_eq_true (by first | (with_reducible assumption) | assumption)
        obtain ⟨ad388, e388, hx388_0⟩ := Kd.at_string HR2.out x27_2 p388 q388
        cases e388
        replace hx388_0 := (HB.out.cell (World.block_lt_of_cell? w _ hx388_0)).trans hx388_0
        replace p388 := eq_true p388
        replace q388 := eq_true q388
        go_wp2_with (first | ((with_reducible refine gate_dst (N := 10) rfl ?_); (try (refine gate_guard (by rfl) ?_; dsimp only)); refine R_arr Value.string (fun _ => rfl) _ 53 ?hg (N := 10) ?hd (List.replicate 2 (⟨#[]⟩ : ByteArray)) ?hr (Below.refl _ _) (Nat.le_refl _) (by decide) ?_; (case hd => rfl); (case hg => rfl); (case hr => first | (go_simp; done) | (go_simp; rfl)); intro v390 w19 ho20 hb hg_ hnew_; clear hg_ hnew_; (first | rw [← Ny389.out] at ho20 | (simp only [Int.reduceToNat] at ho20; rw [← Ny389.out] at ho20)); have n0_ := Aside0.mk (Kd.R_lower ho20 (below_size (by repeat (first | (with_reducible first | exact HB.out | apply below_alloc | apply pw_below_drewN | apply below_drew1) | exact HB.out)))); have n1_ := Aside0.mk (below_step (by repeat (first | (with_reducible first | exact HB.out | apply below_alloc | apply pw_below_drewN | apply below_drew1) | exact HB.out)) hb); clear HB; have HO391 := n0_; have HB := n1_; clear n0_ n1_; clear hb ho20; have qa14 : ((0 : Int) < (2 : Int)) = True := eq_true (by have e_ : y389.length = 2 := of_decide_eq_true (by first | (with_reducible assumption) | assumption); have h_ : (0 : Int) < ((y389.length : Int) : Int) := of_decide_eq_true (by first | (with_reducible assumption) | assumption); omega); have p14 : 0 ≤ (0 : Int) := (by omega); have q14 : (0 : Int) < ((y389.length : Int) : Int) := of_decide_eq_true (by first | (with_reducible assumption) | assumption); have qi14 : (0 < y389.length) = True := eq_true (by omega); obtain ⟨go14, co14, eo14, gb14, gl14, cl14, HG14⟩ := Kd.R_form HO391.out (by omega); (first | cases eo14 | (injection eo14 with ea_ en_ ec_; (first | subst ea_ | (injection ea_ with ea_; subst ea_)); subst ec_; clear en_)); have GB14 := Aside0.mk gb14; have GG14 := Aside0.mk HG14; clear gb14 gl14 HG14; obtain ⟨hx14_0, hf14_0⟩ := Kd.R_celln (⟨#[]⟩ : ByteArray) HO391.out (0 : Int) p14 q14; (try rw [show ((0 : Int)).toNat = 0 from rfl] at hx14_0); (try simp only [Nat.reduceMul, Nat.zero_mul, Nat.zero_add, Nat.reduceAdd] at hx14_0); (try rw [show ((0 : Int)).toNat = 0 from rfl] at hf14_0); (try simp only [Nat.reduceMul, Nat.zero_mul, Nat.zero_add, Nat.reduceAdd] at hf14_0); replace p14 := eq_true p14; replace q14 := eq_true q14; have HP21 := R_whole (ys := [x0_2, rdOf ByteArray.empty l2 x27_2]) HO391.out (by have e_ : y389.length = 2 := of_decide_eq_true (by first | (with_reducible assumption) | assumption); have e2_ := (Kd.R_reads' HO391.out).1; first | (rw [e_]; rfl) | (simp only [List.length_cons, List.length_nil]; omega))) | ((with_reducible refine gate_store (t := 53) (p := 10) rfl ?_); refine store_event (t := 53) (p := 10) (v := ?vo_w22) (w1 := (w19.setCells go14 0 (encs Value.string [x0_2, rdOf ByteArray.empty l2 x27_2]))) ?hg ?ho ?hn ?hr ?_; (case ho => rfl); (case hg => rfl); (case hn => rfl); (case hr => exact whole_run (ys := [x0_2, rdOf ByteArray.empty l2 x27_2]) rfl rfl rfl (by kernel_rfl) HO391.out (by have e_ : y389.length = 2 := of_decide_eq_true (by first | (with_reducible assumption) | assumption); have e2_ := (Kd.R_reads' HO391.out).1; first | (rw [e_]; rfl) | (simp only [List.length_cons, List.length_nil]; omega))); intro w22 hw; have hg : w19.grownBy w22 (some go14) := (by rw [hw]; exact HP21.2); have hp_ : Kd.R Kd.string 53 w22 w.heap.size (fun _ => True) (.slice (some ⟨go14, 0, none⟩) y389.length co14) y392 := (by rw [hw, Ny392.out]; exact HP21.1); clear HP21; have n0_ := Aside0.mk (hp_); have n1_ := Aside0.mk ((Below.grown HB.out hg (below_size HB.out) (fun k_ e_ => (Option.some.inj e_) ▸ GB14.out) : Below w.heap.size w w22)); clear HO391; clear HB; have HO391 := n0_; have HB := n1_; clear n0_ n1_; clear hg hw hp_; have qa16 : ((0 : Int) < (2 : Int)) = True := eq_true (by have e_ : y389.length = 2 := of_decide_eq_true (by first | (with_reducible assumption) | assumption); have h_ : (0 : Int) < ((y389.length : Int) : Int) := of_decide_eq_true (by first | (with_reducible assumption) | assumption); omega); have p16 : 0 ≤ (0 : Int) := (by omega); have q16 : (0 : Int) < ((y389.length : Int) : Int) := of_decide_eq_true (by first | (with_reducible assumption) | assumption); have qi16 : (0 < y389.length) = True := eq_true (by omega); obtain ⟨hx16_0, hf16_0⟩ := Kd.R_celln (⟨#[]⟩ : ByteArray) HO391.out (0 : Int) p16 q16; (try rw [show ((0 : Int)).toNat = 0 from rfl] at hx16_0); (try simp only [Nat.reduceMul, Nat.zero_mul, Nat.zero_add, Nat.reduceAdd] at hx16_0); (try rw [show ((0 : Int)).toNat = 0 from rfl] at hf16_0); (try simp only [Nat.reduceMul, Nat.zero_mul, Nat.zero_add, Nat.reduceAdd] at hf16_0); replace p16 := eq_true p16; replace q16 := eq_true q16; have HP23 := R_whole (ys := [rdOf ByteArray.empty l2 x27_2, x0_2]) HO391.out (by have e_ : y389.length = 2 := of_decide_eq_true (by first | (with_reducible assumption) | assumption); have e2_ := (Kd.R_reads' HO391.out).1; first | (rw [e_]; rfl) | (simp only [List.length_cons, List.length_nil]; omega))) | ((with_reducible refine gate_store (t := 53) (p := 10) rfl ?_); refine store_event (t := 53) (p := 10) (v := ?vo_w24) (w1 := (w22.setCells go14 0 (encs Value.string [rdOf ByteArray.empty l2 x27_2, x0_2]))) ?hg ?ho ?hn ?hr ?_; (case ho => rfl); (case hg => rfl); (case hn => rfl); (case hr => exact whole_run (ys := [rdOf ByteArray.empty l2 x27_2, x0_2]) rfl rfl rfl (by kernel_rfl) HO391.out (by have e_ : y389.length = 2 := of_decide_eq_true (by first | (with_reducible assumption) | assumption); have e2_ := (Kd.R_reads' HO391.out).1; first | (rw [e_]; rfl) | (simp only [List.length_cons, List.length_nil]; omega))); intro w24 hw; have hg : w22.grownBy w24 (some go14) := (by rw [hw]; exact HP23.2); have hp_ : Kd.R Kd.string 53 w24 w.heap.size (fun _ => True) (.slice (some ⟨go14, 0, none⟩) y389.length co14) y393 := (by rw [hw, Ny393.out]; exact HP23.1); clear HP23; have n0_ := Aside0.mk (hp_); have n1_ := Aside0.mk ((Below.grown HB.out hg (below_size HB.out) (fun k_ e_ => (Option.some.inj e_) ▸ GB14.out) : Below w.heap.size w w24)); clear HO391; clear HB; have HO391 := n0_; have HB := n1_; clear n0_ n1_; clear hg hw hp_; have qa17 : ((0 : Int) < (2 : Int)) = True := eq_true (by have e_ : y389.length = 2 := of_decide_eq_true (by first | (with_reducible assumption) | assumption); have h_ : (0 : Int) < ((y389.length : Int) : Int) := of_decide_eq_true (by first | (with_reducible assumption) | assumption); omega); have p17 : 0 ≤ (0 : Int) := (by omega); have q17 : (0 : Int) < ((y389.length : Int) : Int) := of_decide_eq_true (by first | (with_reducible assumption) | assumption); have qi17 : (0 < y389.length) = True := eq_true (by omega); obtain ⟨hx17_0, hf17_0⟩ := Kd.R_celln (⟨#[]⟩ : ByteArray) HO391.out (0 : Int) p17 q17; (try rw [show ((0 : Int)).toNat = 0 from rfl] at hx17_0); (try simp only [Nat.reduceMul, Nat.zero_mul, Nat.zero_add, Nat.reduceAdd] at hx17_0); (try rw [show ((0 : Int)).toNat = 0 from rfl] at hf17_0); (try simp only [Nat.reduceMul, Nat.zero_mul, Nat.zero_add, Nat.reduceAdd] at hf17_0); replace p17 := eq_true p17; replace q17 := eq_true q17) | ((with_reducible refine gate_dst (N := 40) rfl ?_); (try (refine gate_guard (by rfl) ?_; dsimp only)); refine aslice_event (P := Tryd.prog) rfl (N := 40) rfl 53 9 2 _ _ rfl rfl Tryd.underlying53 (by go_simp) ?_) | ((with_reducible refine gate_callee (f := 29) rfl ?_); refine goesL_ (some 41) rfl rfl Tryd.func29 (by kernel_rfl) rfl #[.int .i64 4, .slice (some ⟨go14, 0, none⟩) y393.length 2] rfl (by (try simp only [List.map_toArray, List.map_cons, List.map_nil]); first | done | (rw [show y393.length = 2 from (by have e_ : y389.length = 2 := (by first | rfl | exact of_decide_eq_true (by first | (with_reducible assumption) | assumption)); have e2_ := (Kd.R_reads' HO391.out).1; omega)] <;> rfl) | rfl | (simp only [List.length_drop, List.length_take]; rfl)) ?_; (with_reducible refine (sha_Tag.calls k2 4 _ _ y393 t394 _ ?side1 ?side2 ?side3 A18.out).mono ?_); (case side1 => repeat (first | exact (Kd.R_reads' HO391.out).2.2 | (with_reducible refine Kd.C_alloc ?_ _) | (with_reducible refine Kd.C_drewN ?_ _) | (with_reducible refine Kd.C_drew ?_))); (case side2 => rw [show y393.length = 2 from (by have e_ : y389.length = 2 := (by first | rfl | exact of_decide_eq_true (by first | (with_reducible assumption) | assumption)); have e2_ := (Kd.R_reads' HO391.out).1; omega)]; first | done | exact Nat.le_refl _ | exact Nat.le_of_eq (by have e_ : y389.length = 2 := (by first | rfl | exact of_decide_eq_true (by first | (with_reducible assumption) | assumption)); have e2_ := (Kd.R_reads' HO391.out).1; omega)); (case side3 => repeat (first | exact (Kd.C_below HRG.out HB.out) | (with_reducible refine Kd.C_alloc ?_ _) | (with_reducible refine Kd.C_drewN ?_ _) | (with_reducible refine Kd.C_drew ?_))); rintro e w26 ⟨rfl, hb⟩; refine ⟨_, rfl, ?_⟩; have n0_ := Aside0.mk (Kd.R_below (by (with_reducible repeat (first | apply Kd.R_alloc | apply Kd.R_drewN | apply Kd.R_drew)); exact HO391.out) hb); have n1_ := Aside0.mk (below_step (by repeat (first | (with_reducible first | exact HB.out | apply below_alloc | apply pw_below_drewN | apply below_drew1) | exact HB.out)) hb); clear HO391; clear HB; have HO391 := n0_; have HB := n1_; clear n0_ n1_; (try clear hb); (try clear hb2); (try clear hk); (try clear hi)))
        go_roundg k2
        case measure => have := HJ3.out; have := HK2.out; omega
        case rel => exact ⟨(t394), (x1_2 / 2), (wrap64 (x27_2 + 1)), (by first | rfl | (simp; done) | (simp [*]; done) | exact congrArg Value.bool (nonempty_l _) | (refine congrArg (Value.int _) ?_; first | omega | (unfold Go.RowKit.wrap64; omega))), (by first | rfl | (simp; done) | (simp [*]; done) | exact congrArg Value.bool (nonempty_l _) | (refine congrArg (Value.int _) ?_; first | omega | (unfold Go.RowKit.wrap64; omega))), (by first | rfl | (simp; done) | (simp [*]; done) | exact congrArg Value.bool (nonempty_l _) | (refine congrArg (Value.int _) ?_; first | omega | (unfold Go.RowKit.wrap64; omega))), H', ⟨by have := HJ3.out; have := HK2.out; omega⟩, ⟨by repeat (first | (with_reducible first | exact HB.out | apply below_alloc | apply pw_below_drewN | apply below_drew1) | exact HB.out)⟩⟩
       ·rw [if_neg c15] at H
        have c15b0 : ((Go.bits .and .i64 x1_2 1) == 1) = false := beq_eq_false_iff_ne.mpr c15
        have c15b1 : ((Go.bits .and .i64 x1_2 1) != 1) = true := bne_iff_ne.mpr c15
        replace H := Option.bind_eq_some_iff.mp H
        obtain ⟨t395, A280, H⟩ := H
        replace H : (merkle_Fold.l0 k2 t395 (x1_2 / 2) l2 (l2.length : Int) (wrap64 (x27_2 + 1))) = some (r1, r2) := H
        have A28 := Aside0.mk A280
        clear A280
        have H' := Aside0.mk H
        clear H
        have p388 : 0 ≤ (x27_2 : Int) := of_decide_eq_true (by first | (with_reducible assumption) | assumption)
        have q388 : x27_2 < (l2.length : Int) := of_decide_eq_true (by first | (with_reducible assumption) | assumption)
        obtain ⟨ad388, e388, hx388_0⟩ := Kd.at_string HR2.out x27_2 p388 q388
        cases e388
        replace hx388_0 := (HB.out.cell (World.block_lt_of_cell? w _ hx388_0)).trans hx388_0
        replace p388 := eq_true p388
        replace q388 := eq_true q388
        go_wp2_with (first | ((with_reducible refine gate_dst (N := 10) rfl ?_); (try (refine gate_guard (by rfl) ?_; dsimp only)); refine R_arr Value.string (fun _ => rfl) _ 53 ?hg (N := 10) ?hd (List.replicate 2 (⟨#[]⟩ : ByteArray)) ?hr (Below.refl _ _) (Nat.le_refl _) (by decide) ?_; (case hd => rfl); (case hg => rfl); (case hr => first | (go_simp; done) | (go_simp; rfl)); intro v390 w29 ho30 hb hg_ hnew_; clear hg_ hnew_; (first | rw [← Ny389.out] at ho30 | (simp only [Int.reduceToNat] at ho30; rw [← Ny389.out] at ho30)); have n0_ := Aside0.mk (Kd.R_lower ho30 (below_size (by repeat (first | (with_reducible first | exact HB.out | apply below_alloc | apply pw_below_drewN | apply below_drew1) | exact HB.out)))); have n1_ := Aside0.mk (below_step (by repeat (first | (with_reducible first | exact HB.out | apply below_alloc | apply pw_below_drewN | apply below_drew1) | exact HB.out)) hb); clear HB; have HO391 := n0_; have HB := n1_; clear n0_ n1_; clear hb ho30; have qa14 : ((0 : Int) < (2 : Int)) = True := eq_true (by have e_ : y389.length = 2 := of_decide_eq_true (by first | (with_reducible assumption) | assumption); have h_ : (0 : Int) < ((y389.length : Int) : Int) := of_decide_eq_true (by first | (with_reducible assumption) | assumption); omega); have p14 : 0 ≤ (0 : Int) := (by omega); have q14 : (0 : Int) < ((y389.length : Int) : Int) := of_decide_eq_true (by first | (with_reducible assumption) | assumption); have qi14 : (0 < y389.length) = True := eq_true (by omega); obtain ⟨go14, co14, eo14, gb14, gl14, cl14, HG14⟩ := Kd.R_form HO391.out (by omega); (first | cases eo14 | (injection eo14 with ea_ en_ ec_; (first | subst ea_ | (injection ea_ with ea_; subst ea_)); subst ec_; clear en_)); have GB14 := Aside0.mk gb14; have GG14 := Aside0.mk HG14; clear gb14 gl14 HG14; obtain ⟨hx14_0, hf14_0⟩ := Kd.R_celln (⟨#[]⟩ : ByteArray) HO391.out (0 : Int) p14 q14; (try rw [show ((0 : Int)).toNat = 0 from rfl] at hx14_0); (try simp only [Nat.reduceMul, Nat.zero_mul, Nat.zero_add, Nat.reduceAdd] at hx14_0); (try rw [show ((0 : Int)).toNat = 0 from rfl] at hf14_0); (try simp only [Nat.reduceMul, Nat.zero_mul, Nat.zero_add, Nat.reduceAdd] at hf14_0); replace p14 := eq_true p14; replace q14 := eq_true q14; have HP31 := R_whole (ys := [x0_2, rdOf ByteArray.empty l2 x27_2]) HO391.out (by have e_ : y389.length = 2 := of_decide_eq_true (by first | (with_reducible assumption) | assumption); have e2_ := (Kd.R_reads' HO391.out).1; first | (rw [e_]; rfl) | (simp only [List.length_cons, List.length_nil]; omega))) | ((with_reducible refine gate_store (t := 53) (p := 10) rfl ?_); refine store_event (t := 53) (p := 10) (v := ?vo_w32) (w1 := (w29.setCells go14 0 (encs Value.string [x0_2, rdOf ByteArray.empty l2 x27_2]))) ?hg ?ho ?hn ?hr ?_; (case ho => rfl); (case hg => rfl); (case hn => rfl); (case hr => exact whole_run (ys := [x0_2, rdOf ByteArray.empty l2 x27_2]) rfl rfl rfl (by kernel_rfl) HO391.out (by have e_ : y389.length = 2 := of_decide_eq_true (by first | (with_reducible assumption) | assumption); have e2_ := (Kd.R_reads' HO391.out).1; first | (rw [e_]; rfl) | (simp only [List.length_cons, List.length_nil]; omega))); intro w32 hw; have hg : w29.grownBy w32 (some go14) := (by rw [hw]; exact HP31.2); have hp_ : Kd.R Kd.string 53 w32 w.heap.size (fun _ => True) (.slice (some ⟨go14, 0, none⟩) y389.length co14) y392 := (by rw [hw, Ny392.out]; exact HP31.1); clear HP31; have n0_ := Aside0.mk (hp_); have n1_ := Aside0.mk ((Below.grown HB.out hg (below_size HB.out) (fun k_ e_ => (Option.some.inj e_) ▸ GB14.out) : Below w.heap.size w w32)); clear HO391; clear HB; have HO391 := n0_; have HB := n1_; clear n0_ n1_; clear hg hw hp_; have qa27 : ((0 : Int) < (2 : Int)) = True := eq_true (by have e_ : y389.length = 2 := of_decide_eq_true (by first | (with_reducible assumption) | assumption); have h_ : (0 : Int) < ((y389.length : Int) : Int) := of_decide_eq_true (by first | (with_reducible assumption) | assumption); omega); have p27 : 0 ≤ (0 : Int) := (by omega); have q27 : (0 : Int) < ((y389.length : Int) : Int) := of_decide_eq_true (by first | (with_reducible assumption) | assumption); have qi27 : (0 < y389.length) = True := eq_true (by omega); obtain ⟨hx27_0, hf27_0⟩ := Kd.R_celln (⟨#[]⟩ : ByteArray) HO391.out (0 : Int) p27 q27; (try rw [show ((0 : Int)).toNat = 0 from rfl] at hx27_0); (try simp only [Nat.reduceMul, Nat.zero_mul, Nat.zero_add, Nat.reduceAdd] at hx27_0); (try rw [show ((0 : Int)).toNat = 0 from rfl] at hf27_0); (try simp only [Nat.reduceMul, Nat.zero_mul, Nat.zero_add, Nat.reduceAdd] at hf27_0); replace p27 := eq_true p27; replace q27 := eq_true q27) | ((with_reducible refine gate_dst (N := 40) rfl ?_); (try (refine gate_guard (by rfl) ?_; dsimp only)); refine aslice_event (P := Tryd.prog) rfl (N := 40) rfl 53 9 2 _ _ rfl rfl Tryd.underlying53 (by go_simp) ?_) | ((with_reducible refine gate_callee (f := 29) rfl ?_); refine goesL_ (some 41) rfl rfl Tryd.func29 (by kernel_rfl) rfl #[.int .i64 4, .slice (some ⟨go14, 0, none⟩) y392.length 2] rfl (by (try simp only [List.map_toArray, List.map_cons, List.map_nil]); first | done | (rw [show y392.length = 2 from (by have e_ : y389.length = 2 := (by first | rfl | exact of_decide_eq_true (by first | (with_reducible assumption) | assumption)); have e2_ := (Kd.R_reads' HO391.out).1; omega)] <;> rfl) | rfl | (simp only [List.length_drop, List.length_take]; rfl)) ?_; (with_reducible refine (sha_Tag.calls k2 4 _ _ y392 t395 _ ?side1 ?side2 ?side3 A28.out).mono ?_); (case side1 => repeat (first | exact (Kd.R_reads' HO391.out).2.2 | (with_reducible refine Kd.C_alloc ?_ _) | (with_reducible refine Kd.C_drewN ?_ _) | (with_reducible refine Kd.C_drew ?_))); (case side2 => rw [show y392.length = 2 from (by have e_ : y389.length = 2 := (by first | rfl | exact of_decide_eq_true (by first | (with_reducible assumption) | assumption)); have e2_ := (Kd.R_reads' HO391.out).1; omega)]; first | done | exact Nat.le_refl _ | exact Nat.le_of_eq (by have e_ : y389.length = 2 := (by first | rfl | exact of_decide_eq_true (by first | (with_reducible assumption) | assumption)); have e2_ := (Kd.R_reads' HO391.out).1; omega)); (case side3 => repeat (first | exact (Kd.C_below HRG.out HB.out) | (with_reducible refine Kd.C_alloc ?_ _) | (with_reducible refine Kd.C_drewN ?_ _) | (with_reducible refine Kd.C_drew ?_))); rintro e w34 ⟨rfl, hb⟩; refine ⟨_, rfl, ?_⟩; have n0_ := Aside0.mk (Kd.R_below (by (with_reducible repeat (first | apply Kd.R_alloc | apply Kd.R_drewN | apply Kd.R_drew)); exact HO391.out) hb); have n1_ := Aside0.mk (below_step (by repeat (first | (with_reducible first | exact HB.out | apply below_alloc | apply pw_below_drewN | apply below_drew1) | exact HB.out)) hb); clear HO391; clear HB; have HO391 := n0_; have HB := n1_; clear n0_ n1_; (try clear hb); (try clear hb2); (try clear hk); (try clear hi)))
        go_roundg k2
        case measure => have := HJ3.out; have := HK2.out; omega
        case rel => exact ⟨(t395), (x1_2 / 2), (wrap64 (x27_2 + 1)), (by first | rfl | (simp; done) | (simp [*]; done) | exact congrArg Value.bool (nonempty_l _) | (refine congrArg (Value.int _) ?_; first | omega | (unfold Go.RowKit.wrap64; omega))), (by first | rfl | (simp; done) | (simp [*]; done) | exact congrArg Value.bool (nonempty_l _) | (refine congrArg (Value.int _) ?_; first | omega | (unfold Go.RowKit.wrap64; omega))), (by first | rfl | (simp; done) | (simp [*]; done) | exact congrArg Value.bool (nonempty_l _) | (refine congrArg (Value.int _) ?_; first | omega | (unfold Go.RowKit.wrap64; omega))), H', ⟨by have := HJ3.out; have := HK2.out; omega⟩, ⟨by repeat (first | (with_reducible first | exact HB.out | apply below_alloc | apply pw_below_drewN | apply below_drew1) | exact HB.out)⟩⟩
      ·rw [if_neg c9] at H
       have c9b0 : decide (x27_2 < (l2.length : Int)) = false := decide_eq_false c9
       clear c9
       simp only [Option.some.injEq, Prod.mk.injEq] at H
       obtain ⟨rfl, rfl⟩ := H
       go_wp2
       go_ret2
       exact ⟨by first | rfl | (simp [errW_none, errW_some] <;> rfl) | (simp [*, errW_none, errW_some] <;> rfl), by repeat (first | (with_reducible first | exact HB.out | apply below_alloc | apply pw_below_drewN | apply below_drew1) | exact HB.out)⟩

end Go.Proofs.YtmnppogihmhdgaaDoor.PP
