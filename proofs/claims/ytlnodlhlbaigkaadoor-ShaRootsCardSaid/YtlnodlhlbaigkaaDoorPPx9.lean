-- WRITTEN BY a program of this work (wip/ownprint.py), for this seat
import Derived.Test.YtlnodlhlbaigkaaDoorPPx0
namespace Go.Proofs.YtlnodlhlbaigkaaDoor.PP
open Go.RowKit Go.Proofs.YtlnodlhlbaigkaaDoorW.PrintWords Go.Proofs.YtlnodlhlbaigkaaDoorW.PrintLast Go.Proofs.YtlnodlhlbaigkaaDoorW.PrintMore
attribute [local go_sem] max2_int min2_int max_two min_two max_three min_three max_four min_four   -- for this text's walks alone
set_option linter.unusedVariables false
set_option linter.unusedSimpArgs false

/-! ### palaverref02_times: function 42 -/
mutual
def palaverref02_times.l0 : Nat → List Int → List Int → List Int → Int → Option (List Int)
  | 0, _, _, _, _ => none
  | k + 1, x0, x1, x5, x6 => if x6 < (x0.length : Int) then (palaverref02_times.l1 k x0 x1 x5 x6 0 0) else (some x5)
def palaverref02_times.l1 : Nat → List Int → List Int → List Int → Int → Int → Int → Option (List Int)
  | 0, _, _, _, _, _, _ => none
  | k + 1, x0, x1, x5, x6, x7, x8 => if x8 < (x1.length : Int) then (if 0 ≤ (wrap64 (x6 + x8)) then (if (wrap64 (x6 + x8)) < (x5.length : Int) then (if 0 ≤ x6 then (if x6 < (x0.length : Int) then (if 0 ≤ x8 then (palaverref02_times.l1 k x0 x1 (x5.set ((wrap64 (x6 + x8)) : Int).toNat (Int.tmod (IntKind.u64.wrap ((IntKind.u64.wrap ((rd x5 (wrap64 (x6 + x8))) + (IntKind.u64.wrap ((rd x0 x6) * (rd x1 x8))))) + x7)) 65536)) x6 (IntKind.u64.wrap (Int.tdiv (IntKind.u64.wrap ((IntKind.u64.wrap ((rd x5 (wrap64 (x6 + x8))) + (IntKind.u64.wrap ((rd x0 x6) * (rd x1 x8))))) + x7)) 65536)) (wrap64 (x8 + 1))) else (none)) else (none)) else (none)) else (none)) else (none)) else (if 0 ≤ (wrap64 (x6 + (x1.length : Int))) then (if (wrap64 (x6 + (x1.length : Int))) < (x5.length : Int) then (palaverref02_times.l0 k x0 x1 (x5.set ((wrap64 (x6 + (x1.length : Int))) : Int).toNat (IntKind.u64.wrap ((rd x5 (wrap64 (x6 + (x1.length : Int)))) + x7))) (wrap64 (x6 + 1))) else (none)) else (none))
end
def palaverref02_times.f (k : Nat) (l0 : List Int) (l1 : List Int) : Option (List Int) := if 0 ≤ (wrap64 ((wrap64 ((l0.length : Int) + (l1.length : Int))) + 1)) then (if (wrap64 ((wrap64 ((l0.length : Int) + (l1.length : Int))) + 1) : Int).toNat ≤ 35184372088832 then (palaverref02_times.l0 k l0 l1 (List.replicate (wrap64 ((wrap64 ((l0.length : Int) + (l1.length : Int))) + 1) : Int).toNat 0) 0) else (none)) else (none)
theorem palaverref02_times.mono_l : ∀ k, (∀ y0 y1 y2 y3, LeO (palaverref02_times.l0 k y0 y1 y2 y3) (palaverref02_times.l0 (k + 1) y0 y1 y2 y3)) ∧ (∀ y0 y1 y2 y3 y4 y5, LeO (palaverref02_times.l1 k y0 y1 y2 y3 y4 y5) (palaverref02_times.l1 (k + 1) y0 y1 y2 y3 y4 y5))
  | 0 => ⟨fun _ _ _ _ r h => by simp [palaverref02_times.l0] at h, fun _ _ _ _ _ _ r h => by simp [palaverref02_times.l1] at h⟩
  | k + 1 => by
    obtain ⟨ih0, ih1⟩ := palaverref02_times.mono_l k
    refine ⟨?_, ?_⟩
    · intro y0 y1 y2 y3
      unfold palaverref02_times.l0
      repeat' first
      | (with_reducible exact ih0 _ _ _ _)
      | (with_reducible exact ih1 _ _ _ _ _ _)
      | (with_reducible exact LeO.refl _)
      | (with_reducible exact LeO.none _)
      | (with_reducible refine LeO.ite ?_ ?_)
      | (with_reducible refine LeO.bind ?_ (fun _ => ?_))
      | exact ih0 _ _ _ _
      | exact ih1 _ _ _ _ _ _
      | exact LeO.none _
      | refine LeO.ite ?_ ?_
      | refine LeO.bind ?_ (fun _ => ?_)
    · intro y0 y1 y2 y3 y4 y5
      unfold palaverref02_times.l1
      repeat' first
      | (with_reducible exact ih0 _ _ _ _)
      | (with_reducible exact ih1 _ _ _ _ _ _)
      | (with_reducible exact LeO.refl _)
      | (with_reducible exact LeO.none _)
      | (with_reducible refine LeO.ite ?_ ?_)
      | (with_reducible refine LeO.bind ?_ (fun _ => ?_))
      | exact ih0 _ _ _ _
      | exact ih1 _ _ _ _ _ _
      | exact LeO.none _
      | refine LeO.ite ?_ ?_
      | refine LeO.bind ?_ (fun _ => ?_)
theorem palaverref02_times.mono : ∀ a0 a1 k, LeO (palaverref02_times.f k a0 a1) (palaverref02_times.f (k + 1) a0 a1) := by
  intro a0 a1 k
  obtain ⟨ih0, ih1⟩ := palaverref02_times.mono_l k
  unfold palaverref02_times.f
  repeat' first
      | (with_reducible exact ih0 _ _ _ _)
      | (with_reducible exact ih1 _ _ _ _ _ _)
      | (with_reducible exact LeO.refl _)
      | (with_reducible exact LeO.none _)
      | (with_reducible refine LeO.ite ?_ ?_)
      | (with_reducible refine LeO.bind ?_ (fun _ => ?_))
      | exact ih0 _ _ _ _
      | exact ih1 _ _ _ _ _ _
      | exact LeO.none _
      | refine LeO.ite ?_ ?_
      | refine LeO.bind ?_ (fun _ => ?_)
set_option maxHeartbeats 64000000 in
set_option maxRecDepth 100000 in
theorem palaverref02_times.calls (k : Nat) (A0 : Option Addr) (c0 : Nat) (l0 : List Int) (A1 : Option Addr) (c1 : Nat) (l1 : List Int) (r : List Int) (w : World) (hr0 : Kd.C (Kd.int .u64) w A0 l0.length l0) (hc0 : l0.length ≤ c0) (hr1 : Kd.C (Kd.int .u64) w A1 l1.length l1) (hc1 : l1.length ≤ c1) (h : palaverref02_times.f k l0 l1 = some r) :
    Calls Tryd.prog 42 #[.slice A0 l0.length c0, .slice A1 l1.length c1] w fun e w' => ∃ v0_ : Value, e = .returned (v0_) ∧ Kd.R (Kd.int .u64) 45 w' w.heap.size (fun _ => True) v0_ r ∧ Below w.heap.size w w' := by
  have HR0 := Aside0.mk hr0
  have HC0 := Aside0.mk hc0
  clear hr0 hc0
  have HR1 := Aside0.mk hr1
  have HC1 := Aside0.mk hc1
  clear hr1 hc1
  have HB := Aside0.mk (Below.refl w.heap.size w)
  have H : (if 0 ≤ (wrap64 ((wrap64 ((l0.length : Int) + (l1.length : Int))) + 1)) then (if (wrap64 ((wrap64 ((l0.length : Int) + (l1.length : Int))) + 1) : Int).toNat ≤ 35184372088832 then (palaverref02_times.l0 k l0 l1 (List.replicate (wrap64 ((wrap64 ((l0.length : Int) + (l1.length : Int))) + 1) : Int).toNat 0) 0) else (none)) else (none)) = some r := h
  clear h
  obtain ⟨ji3, hji3⟩ : ∃ j_ : Int, (wrap64 ((wrap64 ((l0.length : Int) + (l1.length : Int))) + 1)) = j_ := ⟨_, rfl⟩
  replace H : (if 0 ≤ (ji3) then (if (ji3 : Int).toNat ≤ 35184372088832 then (palaverref02_times.l0 k l0 l1 (List.replicate (ji3 : Int).toNat 0) 0) else (none)) else (none)) = some r := by first | (rw [hji3] at H; exact H) | (simp only [hji3] at H ⊢; exact H)
  have hji3w : (IntKind.i64.wrap ((wrap64 ((l0.length : Int) + (l1.length : Int))) + 1)) = ji3 := (i64_w _).trans hji3
  by_cases c4 : 0 ≤ (ji3)
  · rw [if_pos c4] at H
    have c4b0 := eq_true c4
    have c4b1 : decide (0 ≤ (ji3)) = true := decide_eq_true c4
    clear c4
    by_cases c5 : (ji3 : Int).toNat ≤ 35184372088832
    · rw [if_pos c5] at H
      have c5b0 := eq_true c5
      have c5b1 : decide ((ji3 : Int).toNat ≤ 35184372088832) = true := decide_eq_true c5
      clear c5
      obtain ⟨y235, hy235⟩ : ∃ y_ : List Int, y_ = (List.replicate (ji3 : Int).toNat 0) := ⟨_, rfl⟩
      replace H : (palaverref02_times.l0 k l0 l1 y235 0) = some r := by first | (rw [hy235]; with_reducible exact H) | (have H2_ := (Option.bind_some _ _).symm.trans H; rw [hy235]; with_reducible exact H2_) | (have H2_ := (Option.bind_some _ _).symm.trans H; with_reducible exact H2_) | with_reducible exact H | (rw [hy235]; exact H) | exact H
      have Ny235 := Aside0.mk hy235
      clear hy235
      have H' := Aside0.mk H
      clear H
      go_enter Tryd.func42, Tryd.ntmps42
      go_wp2_with (first | ((with_reducible refine gate_dst (N := 16) rfl ?_); refine Kd.R_make (Kd.int .u64) _ 45 rfl (N := 16) rfl 74 _ _ rfl ji3 rfl rfl Tryd.underlying74 (.int .u64 0) 8 info45 rfl (by decide) (by omega) 0 (ok := fun _ => True) (okp := fun _ => True) rfl (fun _ hk => hk) trivial (of_decide_eq_true (by first | (with_reducible assumption) | assumption)) (Nat.le_trans (Nat.mul_le_mul_right _ (of_decide_eq_true (by first | (with_reducible assumption) | assumption) : ji3.toNat ≤ 35184372088832)) (by omega)) (Below.refl _ _) (Nat.le_refl _) ?_; intro v236 w6 ho7 hb hg_ hnew_; clear hg_ hnew_; (first | rw [← Ny235.out] at ho7 | (simp only [Int.reduceToNat] at ho7; rw [← Ny235.out] at ho7)); have n0_ := Aside0.mk (Kd.R_lower ho7 (below_size (by repeat (first | (with_reducible first | exact HB.out | apply below_alloc | apply pw_below_drewN | apply below_drew1) | exact HB.out)))); have n1_ := Aside0.mk (below_step (by repeat (first | (with_reducible first | exact HB.out | apply below_alloc | apply pw_below_drewN | apply below_drew1) | exact HB.out)) hb); clear HB; have HO237 := n0_; have HB := n1_; clear n0_ n1_; clear hb ho7))
      repeat (go_quiet (first | ((with_reducible refine gate_dst (N := 16) rfl ?_); refine Kd.R_make (Kd.int .u64) _ 45 rfl (N := 16) rfl 74 _ _ rfl ji3 rfl rfl Tryd.underlying74 (.int .u64 0) 8 info45 rfl (by decide) (by omega) 0 (ok := fun _ => True) (okp := fun _ => True) rfl (fun _ hk => hk) trivial (of_decide_eq_true (by first | (with_reducible assumption) | assumption)) (Nat.le_trans (Nat.mul_le_mul_right _ (of_decide_eq_true (by first | (with_reducible assumption) | assumption) : ji3.toNat ≤ 35184372088832)) (by omega)) (Below.refl _ _) (Nat.le_refl _) ?_; intro v236 w6 ho7 hb hg_ hnew_; clear hg_ hnew_; (first | rw [← Ny235.out] at ho7 | (simp only [Int.reduceToNat] at ho7; rw [← Ny235.out] at ho7)); have n0_ := Aside0.mk (Kd.R_lower ho7 (below_size (by repeat (first | (with_reducible first | exact HB.out | apply below_alloc | apply pw_below_drewN | apply below_drew1) | exact HB.out)))); have n1_ := Aside0.mk (below_step (by repeat (first | (with_reducible first | exact HB.out | apply below_alloc | apply pw_below_drewN | apply below_drew1) | exact HB.out)) hb); clear HB; have HO237 := n0_; have HB := n1_; clear n0_ n1_; clear hb ho7)); try go_wp2_with (first | ((with_reducible refine gate_dst (N := 16) rfl ?_); refine Kd.R_make (Kd.int .u64) _ 45 rfl (N := 16) rfl 74 _ _ rfl ji3 rfl rfl Tryd.underlying74 (.int .u64 0) 8 info45 rfl (by decide) (by omega) 0 (ok := fun _ => True) (okp := fun _ => True) rfl (fun _ hk => hk) trivial (of_decide_eq_true (by first | (with_reducible assumption) | assumption)) (Nat.le_trans (Nat.mul_le_mul_right _ (of_decide_eq_true (by first | (with_reducible assumption) | assumption) : ji3.toNat ≤ 35184372088832)) (by omega)) (Below.refl _ _) (Nat.le_refl _) ?_; intro v236 w6 ho7 hb hg_ hnew_; clear hg_ hnew_; (first | rw [← Ny235.out] at ho7 | (simp only [Int.reduceToNat] at ho7; rw [← Ny235.out] at ho7)); have n0_ := Aside0.mk (Kd.R_lower ho7 (below_size (by repeat (first | (with_reducible first | exact HB.out | apply below_alloc | apply pw_below_drewN | apply below_drew1) | exact HB.out)))); have n1_ := Aside0.mk (below_step (by repeat (first | (with_reducible first | exact HB.out | apply below_alloc | apply pw_below_drewN | apply below_drew1) | exact HB.out)) hb); clear HB; have HO237 := n0_; have HB := n1_; clear n0_ n1_; clear hb ho7)))
      go_loopg [6] k (fun kq v6 w' => ∃ (x5_1 : List Int) (x6_1 : Int), v6 = .int .i64 x6_1 ∧ Aside0 (palaverref02_times.l0 kq l0 l1 x5_1 x6_1 = some r) ∧ Aside0 (kq ≤ k) ∧ Aside0 (Kd.R (Kd.int .u64) 45 w' w.heap.size (fun _ => True) v236 x5_1) ∧ Aside0 (Below w.heap.size w w'))
      case atStart => exact ⟨(y235), (0), (by first | rfl | (simp; done) | (simp [*]; done) | exact congrArg Value.bool (nonempty_l _) | (refine congrArg (Value.int _) ?_; first | omega | (unfold Go.RowKit.wrap64; omega))), H', ⟨Nat.le_refl _⟩, ⟨by (with_reducible repeat (first | apply Kd.R_alloc | apply Kd.R_drewN | apply Kd.R_drew)); exact HO237.out⟩, ⟨by repeat (first | (with_reducible first | exact HB.out | apply below_alloc | apply pw_below_drewN | apply below_drew1) | exact HB.out)⟩⟩
      case round =>
        clear H'
        (try clear c1); (try clear p2); (try clear c4); (try clear c4b0); (try clear c4b1); (try clear c5); (try clear c5b0); (try clear c5b1); (try clear p6)
        obtain ⟨x5_1, x6_1, rfl, HA, HK1, HO_5, HB⟩ := hrel
        cases gk with
        | zero => exact absurd HA.out (by simp [palaverref02_times.l0])
        | succ k1 =>
          have H := HA.out
          clear HA
          simp only [palaverref02_times.l0] at H
          by_cases c8 : x6_1 < (l0.length : Int)
          · rw [if_pos c8] at H
            have c8b0 : decide (x6_1 < (l0.length : Int)) = true := decide_eq_true c8
            clear c8
            have H' := Aside0.mk H
            clear H
            go_wp2
            repeat (go_quiet (fail); try go_wp2)
            go_loopg [7, 8] k1 (fun kq v7 v8 w' => ∃ (x5_2 : List Int) (x7_2 : Int) (x8_2 : Int), v7 = .int .u64 x7_2 ∧ v8 = .int .i64 x8_2 ∧ Aside0 (palaverref02_times.l1 kq l0 l1 x5_2 x6_1 x7_2 x8_2 = some r) ∧ Aside0 (kq ≤ k1) ∧ Aside0 (Kd.R (Kd.int .u64) 45 w' w.heap.size (fun _ => True) v236 x5_2) ∧ Aside0 (Below w.heap.size w w'))
            case atStart => exact ⟨(x5_1), (0), (0), (by first | rfl | (simp; done) | (simp [*]; done) | exact congrArg Value.bool (nonempty_l _) | (refine congrArg (Value.int _) ?_; first | omega | (unfold Go.RowKit.wrap64; omega))), (by first | rfl | (simp; done) | (simp [*]; done) | exact congrArg Value.bool (nonempty_l _) | (refine congrArg (Value.int _) ?_; first | omega | (unfold Go.RowKit.wrap64; omega))), H', ⟨Nat.le_refl _⟩, ⟨by (with_reducible repeat (first | apply Kd.R_alloc | apply Kd.R_drewN | apply Kd.R_drew)); exact HO_5.out⟩, ⟨by repeat (first | (with_reducible first | exact HB.out | apply below_alloc | apply pw_below_drewN | apply below_drew1) | exact HB.out)⟩⟩
            case round =>
              clear H'
              (try clear c1); (try clear p2); (try clear c4); (try clear c4b0); (try clear c4b1); (try clear c5); (try clear c5b0); (try clear c5b1); (try clear p6); (try clear c8); (try clear c8b0); (try clear p2); (try clear p6)
              obtain ⟨x5_2, x7_2, x8_2, rfl, rfl, HA, HK2, HO_5, HB⟩ := hrel
              cases gk with
              | zero => exact absurd HA.out (by simp [palaverref02_times.l1])
              | succ k2 =>
                have H := HA.out
                clear HA
                simp only [palaverref02_times.l1] at H
                by_cases c9 : x8_2 < (l1.length : Int)
                · rw [if_pos c9] at H
                  have c9b0 : decide (x8_2 < (l1.length : Int)) = true := decide_eq_true c9
                  clear c9
                  obtain ⟨ji10, hji10⟩ : ∃ j_ : Int, (wrap64 (x6_1 + x8_2)) = j_ := ⟨_, rfl⟩
                  replace H : (if 0 ≤ (ji10) then (if (ji10) < (x5_2.length : Int) then (if 0 ≤ x6_1 then (if x6_1 < (l0.length : Int) then (if 0 ≤ x8_2 then (palaverref02_times.l1 k2 l0 l1 (x5_2.set ((ji10) : Int).toNat (Int.tmod (IntKind.u64.wrap ((IntKind.u64.wrap ((rd x5_2 (ji10)) + (IntKind.u64.wrap ((rd l0 x6_1) * (rd l1 x8_2))))) + x7_2)) 65536)) x6_1 (IntKind.u64.wrap (Int.tdiv (IntKind.u64.wrap ((IntKind.u64.wrap ((rd x5_2 (ji10)) + (IntKind.u64.wrap ((rd l0 x6_1) * (rd l1 x8_2))))) + x7_2)) 65536)) (wrap64 (x8_2 + 1))) else (none)) else (none)) else (none)) else (none)) else (none)) = some r := by first | (rw [hji10] at H; exact H) | (simp only [hji10] at H ⊢; exact H)
                  have hji10w : (IntKind.i64.wrap (x6_1 + x8_2)) = ji10 := (i64_w _).trans hji10
                  by_cases c11 : 0 ≤ (ji10)
                  · rw [if_pos c11] at H
                    have c11b0 : decide (0 ≤ (ji10)) = true := decide_eq_true c11
                    clear c11
                    by_cases c12 : (ji10) < (x5_2.length : Int)
                    · rw [if_pos c12] at H
                      have c12b0 : decide ((ji10) < (x5_2.length : Int)) = true := decide_eq_true c12
                      clear c12
                      by_cases c13 : 0 ≤ x6_1
                      · rw [if_pos c13] at H
                        have c13b0 : decide (0 ≤ x6_1) = true := decide_eq_true c13
                        clear c13
                        by_cases c14 : x6_1 < (l0.length : Int)
                        · rw [if_pos c14] at H
                          have c14b0 : decide (x6_1 < (l0.length : Int)) = true := decide_eq_true c14
                          clear c14
                          by_cases c15 : 0 ≤ x8_2
                          · rw [if_pos c15] at H
                            have c15b0 : decide (0 ≤ x8_2) = true := decide_eq_true c15
                            clear c15
                            obtain ⟨y241, hy241⟩ : ∃ y_ : List Int, y_ = (x5_2.set ((ji10) : Int).toNat (Int.tmod (IntKind.u64.wrap ((IntKind.u64.wrap ((rd x5_2 (ji10)) + (IntKind.u64.wrap ((rd l0 x6_1) * (rd l1 x8_2))))) + x7_2)) 65536)) := ⟨_, rfl⟩
                            replace H : (palaverref02_times.l1 k2 l0 l1 y241 x6_1 (IntKind.u64.wrap (Int.tdiv (IntKind.u64.wrap ((IntKind.u64.wrap ((rd x5_2 (ji10)) + (IntKind.u64.wrap ((rd l0 x6_1) * (rd l1 x8_2))))) + x7_2)) 65536)) (wrap64 (x8_2 + 1))) = some r := by first | (rw [hy241]; with_reducible exact H) | (have H2_ := (Option.bind_some _ _).symm.trans H; rw [hy241]; with_reducible exact H2_) | (have H2_ := (Option.bind_some _ _).symm.trans H; with_reducible exact H2_) | with_reducible exact H | (rw [hy241]; exact H) | exact H
                            have Ny241 := Aside0.mk hy241
                            clear hy241
                            have H' := Aside0.mk H
                            clear H
                            obtain ⟨Ao17, co17, eo17⟩ := Kd.R_slice HO_5.out
                            subst eo17
                            have p238 : 0 ≤ ((ji10) : Int) := of_decide_eq_true (by first | (with_reducible assumption) | assumption)
                            have q238 : (ji10) < (x5_2.length : Int) := of_decide_eq_true (by first | (with_reducible assumption) | assumption)
                            obtain ⟨ad238, e238, hx238_0⟩ := Kd.at_int (Kd.R_reads' HO_5.out).2.2 (ji10) p238 q238
                            cases e238
                            replace p238 := eq_true p238
                            replace q238 := eq_true q238
                            have p239 : 0 ≤ (x6_1 : Int) := of_decide_eq_true (by first | (with_reducible assumption) | assumption)
                            have q239 : x6_1 < (l0.length : Int) := of_decide_eq_true (by first | (with_reducible assumption) | assumption)
                            obtain ⟨ad239, e239, hx239_0⟩ := Kd.at_int HR0.out x6_1 p239 q239
                            cases e239
                            replace hx239_0 := (HB.out.cell (World.block_lt_of_cell? w _ hx239_0)).trans hx239_0
                            replace p239 := eq_true p239
                            replace q239 := eq_true q239
                            have p240 : 0 ≤ (x8_2 : Int) := of_decide_eq_true (by first | (with_reducible assumption) | assumption)
                            have q240 : x8_2 < (l1.length : Int) := of_decide_eq_true (by first | (with_reducible assumption) | assumption)
                            obtain ⟨ad240, e240, hx240_0⟩ := Kd.at_int HR1.out x8_2 p240 q240
                            cases e240
                            replace hx240_0 := (HB.out.cell (World.block_lt_of_cell? w _ hx240_0)).trans hx240_0
                            replace p240 := eq_true p240
                            replace q240 := eq_true q240
                            have p16 : 0 ≤ ((ji10) : Int) := of_decide_eq_true (by first | (with_reducible assumption) | assumption)
                            have q16 : ((ji10) : Int) < ((x5_2.length : Int) : Int) := of_decide_eq_true (by first | (with_reducible assumption) | assumption)
                            obtain ⟨go16, co16, eo16, gb16, gl16, cl16, HG16⟩ := Kd.R_form HO_5.out (by omega)
                            (first | cases eo16 | (injection eo16 with ea_ en_ ec_; (first | subst ea_ | (injection ea_ with ea_; subst ea_)); subst ec_; clear en_))
                            have GB16 := Aside0.mk gb16
                            have GG16 := Aside0.mk HG16
                            clear gb16 gl16 HG16
                            (first | simp only [add_plain] at hx238_0 | skip)
                            obtain ⟨hx16_0, hf16_0⟩ := Kd.R_celln 0 HO_5.out ((ji10) : Int) p16 q16
                            replace p16 := eq_true p16
                            replace q16 := eq_true q16
                            have HP18 := Kd.R_putg HO_5.out ((ji10) : Int) (Int.tmod (IntKind.u64.wrap ((IntKind.u64.wrap ((rd x5_2 (ji10)) + (IntKind.u64.wrap ((rd l0 x6_1) * (rd l1 x8_2))))) + x7_2)) 65536)
                            go_wp2_with (first | ((with_reducible refine gate_store (t := 45) (p := 53) rfl ?_); (try (rw [drewN_self wr]; generalize hq_ : World.drewN wr _ = wr; have n0_ := Aside0.mk (Kd.R_at hq_ HO_5.out); have n1_ := Aside0.mk (below_at hq_ HB.out); clear hq_ HO_5 HB; have HO_5 := n0_; have HB := n1_; clear n0_ n1_; (try (try (obtain ⟨hx16_0, hf16_0⟩ := Kd.R_celln 0 HO_5.out ((ji10) : Int) (by first | exact p16 | exact of_eq_true p16) (by first | exact q16 | exact of_eq_true q16)))); (try (have HP18 := Kd.R_putg HO_5.out ((ji10) : Int) (Int.tmod (IntKind.u64.wrap ((IntKind.u64.wrap ((rd x5_2 (ji10)) + (IntKind.u64.wrap ((rd l0 x6_1) * (rd l1 x8_2))))) + x7_2)) 65536))))); refine store_event (t := 45) (p := 53) (v := ?vo_w19) (w1 := (wr.setCell ⟨go16, ((ji10) : Int).toNat, none⟩ (.int .u64 (Int.tmod (IntKind.u64.wrap ((IntKind.u64.wrap ((rd x5_2 (ji10)) + (IntKind.u64.wrap ((rd l0 x6_1) * (rd l1 x8_2))))) + x7_2)) 65536)))) ?hg ?ho ?hn ?hr ?_; (case ho => rfl); (case hg => rfl); (case hn => rfl); (case hr => first | (go_simp; done) | (go_simp; rfl)); intro w19 hw; have hg : wr.grownBy w19 (some go16) := (by rw [hw]; exact HP18.2); have hp_ : Kd.R (Kd.int .u64) 45 w19 w.heap.size (fun _ => True) (.slice (some ⟨go16, 0, none⟩) x5_2.length co17) y241 := (by rw [hw, Ny241.out]; exact HP18.1); clear HP18; have n0_ := Aside0.mk (hp_); have n1_ := Aside0.mk ((by rw [hw]; exact below_set (HB.out) GB16.out : Below w.heap.size w w19)); clear HO_5; clear HB; have HO_5 := n0_; have HB := n1_; clear n0_ n1_; clear hg hw hp_))
                            repeat (go_quiet (first | ((with_reducible refine gate_store (t := 45) (p := 53) rfl ?_); (try (rw [drewN_self wr]; generalize hq_ : World.drewN wr _ = wr; have n0_ := Aside0.mk (Kd.R_at hq_ HO_5.out); have n1_ := Aside0.mk (below_at hq_ HB.out); clear hq_ HO_5 HB; have HO_5 := n0_; have HB := n1_; clear n0_ n1_; (try (try (obtain ⟨hx16_0, hf16_0⟩ := Kd.R_celln 0 HO_5.out ((ji10) : Int) (by first | exact p16 | exact of_eq_true p16) (by first | exact q16 | exact of_eq_true q16)))); (try (have HP18 := Kd.R_putg HO_5.out ((ji10) : Int) (Int.tmod (IntKind.u64.wrap ((IntKind.u64.wrap ((rd x5_2 (ji10)) + (IntKind.u64.wrap ((rd l0 x6_1) * (rd l1 x8_2))))) + x7_2)) 65536))))); refine store_event (t := 45) (p := 53) (v := ?vo_w19) (w1 := (wr.setCell ⟨go16, ((ji10) : Int).toNat, none⟩ (.int .u64 (Int.tmod (IntKind.u64.wrap ((IntKind.u64.wrap ((rd x5_2 (ji10)) + (IntKind.u64.wrap ((rd l0 x6_1) * (rd l1 x8_2))))) + x7_2)) 65536)))) ?hg ?ho ?hn ?hr ?_; (case ho => rfl); (case hg => rfl); (case hn => rfl); (case hr => first | (go_simp; done) | (go_simp; rfl)); intro w19 hw; have hg : wr.grownBy w19 (some go16) := (by rw [hw]; exact HP18.2); have hp_ : Kd.R (Kd.int .u64) 45 w19 w.heap.size (fun _ => True) (.slice (some ⟨go16, 0, none⟩) x5_2.length co17) y241 := (by rw [hw, Ny241.out]; exact HP18.1); clear HP18; have n0_ := Aside0.mk (hp_); have n1_ := Aside0.mk ((by rw [hw]; exact below_set (HB.out) GB16.out : Below w.heap.size w w19)); clear HO_5; clear HB; have HO_5 := n0_; have HB := n1_; clear n0_ n1_; clear hg hw hp_)); try go_wp2_with (first | ((with_reducible refine gate_store (t := 45) (p := 53) rfl ?_); (try (rw [drewN_self wr]; generalize hq_ : World.drewN wr _ = wr; have n0_ := Aside0.mk (Kd.R_at hq_ HO_5.out); have n1_ := Aside0.mk (below_at hq_ HB.out); clear hq_ HO_5 HB; have HO_5 := n0_; have HB := n1_; clear n0_ n1_; (try (try (obtain ⟨hx16_0, hf16_0⟩ := Kd.R_celln 0 HO_5.out ((ji10) : Int) (by first | exact p16 | exact of_eq_true p16) (by first | exact q16 | exact of_eq_true q16)))); (try (have HP18 := Kd.R_putg HO_5.out ((ji10) : Int) (Int.tmod (IntKind.u64.wrap ((IntKind.u64.wrap ((rd x5_2 (ji10)) + (IntKind.u64.wrap ((rd l0 x6_1) * (rd l1 x8_2))))) + x7_2)) 65536))))); refine store_event (t := 45) (p := 53) (v := ?vo_w19) (w1 := (wr.setCell ⟨go16, ((ji10) : Int).toNat, none⟩ (.int .u64 (Int.tmod (IntKind.u64.wrap ((IntKind.u64.wrap ((rd x5_2 (ji10)) + (IntKind.u64.wrap ((rd l0 x6_1) * (rd l1 x8_2))))) + x7_2)) 65536)))) ?hg ?ho ?hn ?hr ?_; (case ho => rfl); (case hg => rfl); (case hn => rfl); (case hr => first | (go_simp; done) | (go_simp; rfl)); intro w19 hw; have hg : wr.grownBy w19 (some go16) := (by rw [hw]; exact HP18.2); have hp_ : Kd.R (Kd.int .u64) 45 w19 w.heap.size (fun _ => True) (.slice (some ⟨go16, 0, none⟩) x5_2.length co17) y241 := (by rw [hw, Ny241.out]; exact HP18.1); clear HP18; have n0_ := Aside0.mk (hp_); have n1_ := Aside0.mk ((by rw [hw]; exact below_set (HB.out) GB16.out : Below w.heap.size w w19)); clear HO_5; clear HB; have HO_5 := n0_; have HB := n1_; clear n0_ n1_; clear hg hw hp_)))
                            go_roundg k2
                            case measure => have := HK1.out; have := HK2.out; omega
                            case rel => exact ⟨(y241), (IntKind.u64.wrap (Int.tdiv (IntKind.u64.wrap ((IntKind.u64.wrap ((rd x5_2 (ji10)) + (IntKind.u64.wrap ((rd l0 x6_1) * (rd l1 x8_2))))) + x7_2)) 65536)), (wrap64 (x8_2 + 1)), (by first | rfl | (simp; done) | (simp only [← hji10] <;> (first | rfl | simp)) | (simp [*]; done) | exact congrArg Value.bool (nonempty_l _) | (refine congrArg (Value.int _) ?_; first | omega | (unfold Go.RowKit.wrap64; omega))), (by first | rfl | (simp; done) | (simp [*]; done) | exact congrArg Value.bool (nonempty_l _) | (refine congrArg (Value.int _) ?_; first | omega | (unfold Go.RowKit.wrap64; omega))), H', ⟨by have := HK1.out; have := HK2.out; omega⟩, ⟨by (with_reducible repeat (first | apply Kd.R_alloc | apply Kd.R_drewN | apply Kd.R_drew)); exact HO_5.out⟩, ⟨by repeat (first | (with_reducible first | exact HB.out | apply below_alloc | apply pw_below_drewN | apply below_drew1) | exact HB.out)⟩⟩
                          · rw [if_neg c15] at H
                            exact absurd H (by simp)
                        · rw [if_neg c14] at H
                          exact absurd H (by simp)
                      · rw [if_neg c13] at H
                        exact absurd H (by simp)
                    · rw [if_neg c12] at H
                      exact absurd H (by simp)
                  · rw [if_neg c11] at H
                    exact absurd H (by simp)
                · rw [if_neg c9] at H
                  have c9b0 : decide (x8_2 < (l1.length : Int)) = false := decide_eq_false c9
                  clear c9
                  obtain ⟨ji20, hji20⟩ : ∃ j_ : Int, (wrap64 (x6_1 + (l1.length : Int))) = j_ := ⟨_, rfl⟩
                  replace H : (if 0 ≤ (ji20) then (if (ji20) < (x5_2.length : Int) then (palaverref02_times.l0 k2 l0 l1 (x5_2.set ((ji20) : Int).toNat (IntKind.u64.wrap ((rd x5_2 (ji20)) + x7_2))) (wrap64 (x6_1 + 1))) else (none)) else (none)) = some r := by first | (rw [hji20] at H; exact H) | (simp only [hji20] at H ⊢; exact H)
                  have hji20w : (IntKind.i64.wrap (x6_1 + (l1.length : Int))) = ji20 := (i64_w _).trans hji20
                  by_cases c21 : 0 ≤ (ji20)
                  · rw [if_pos c21] at H
                    have c21b0 : decide (0 ≤ (ji20)) = true := decide_eq_true c21
                    clear c21
                    by_cases c22 : (ji20) < (x5_2.length : Int)
                    · rw [if_pos c22] at H
                      have c22b0 : decide ((ji20) < (x5_2.length : Int)) = true := decide_eq_true c22
                      clear c22
                      obtain ⟨y243, hy243⟩ : ∃ y_ : List Int, y_ = (x5_2.set ((ji20) : Int).toNat (IntKind.u64.wrap ((rd x5_2 (ji20)) + x7_2))) := ⟨_, rfl⟩
                      replace H : (palaverref02_times.l0 k2 l0 l1 y243 (wrap64 (x6_1 + 1))) = some r := by first | (rw [hy243]; with_reducible exact H) | (have H2_ := (Option.bind_some _ _).symm.trans H; rw [hy243]; with_reducible exact H2_) | (have H2_ := (Option.bind_some _ _).symm.trans H; with_reducible exact H2_) | with_reducible exact H | (rw [hy243]; exact H) | exact H
                      have Ny243 := Aside0.mk hy243
                      clear hy243
                      have H' := Aside0.mk H
                      clear H
                      obtain ⟨Ao24, co24, eo24⟩ := Kd.R_slice HO_5.out
                      subst eo24
                      have p242 : 0 ≤ ((ji20) : Int) := of_decide_eq_true (by first | (with_reducible assumption) | assumption)
                      have q242 : (ji20) < (x5_2.length : Int) := of_decide_eq_true (by first | (with_reducible assumption) | assumption)
                      obtain ⟨ad242, e242, hx242_0⟩ := Kd.at_int (Kd.R_reads' HO_5.out).2.2 (ji20) p242 q242
                      cases e242
                      replace p242 := eq_true p242
                      replace q242 := eq_true q242
                      have p23 : 0 ≤ ((ji20) : Int) := of_decide_eq_true (by first | (with_reducible assumption) | assumption)
                      have q23 : ((ji20) : Int) < ((x5_2.length : Int) : Int) := of_decide_eq_true (by first | (with_reducible assumption) | assumption)
                      obtain ⟨go23, co23, eo23, gb23, gl23, cl23, HG23⟩ := Kd.R_form HO_5.out (by omega)
                      (first | cases eo23 | (injection eo23 with ea_ en_ ec_; (first | subst ea_ | (injection ea_ with ea_; subst ea_)); subst ec_; clear en_))
                      have GB23 := Aside0.mk gb23
                      have GG23 := Aside0.mk HG23
                      clear gb23 gl23 HG23
                      (first | simp only [add_plain] at hx242_0 | skip)
                      obtain ⟨hx23_0, hf23_0⟩ := Kd.R_celln 0 HO_5.out ((ji20) : Int) p23 q23
                      replace p23 := eq_true p23
                      replace q23 := eq_true q23
                      have HP25 := Kd.R_putg HO_5.out ((ji20) : Int) (IntKind.u64.wrap ((rd x5_2 (ji20)) + x7_2))
                      go_wp2_with (first | ((with_reducible refine gate_store (t := 45) (p := 70) rfl ?_); (try (rw [drewN_self wr]; generalize hq_ : World.drewN wr _ = wr; have n0_ := Aside0.mk (Kd.R_at hq_ HO_5.out); have n1_ := Aside0.mk (below_at hq_ HB.out); clear hq_ HO_5 HB; have HO_5 := n0_; have HB := n1_; clear n0_ n1_; (try (try (obtain ⟨hx23_0, hf23_0⟩ := Kd.R_celln 0 HO_5.out ((ji20) : Int) (by first | exact p23 | exact of_eq_true p23) (by first | exact q23 | exact of_eq_true q23)))); (try (have HP25 := Kd.R_putg HO_5.out ((ji20) : Int) (IntKind.u64.wrap ((rd x5_2 (ji20)) + x7_2)))))); refine store_event (t := 45) (p := 70) (v := ?vo_w26) (w1 := (wr.setCell ⟨go23, ((ji20) : Int).toNat, none⟩ (.int .u64 (IntKind.u64.wrap ((rd x5_2 (ji20)) + x7_2))))) ?hg ?ho ?hn ?hr ?_; (case ho => rfl); (case hg => rfl); (case hn => rfl); (case hr => first | (go_simp; done) | (go_simp; rfl)); intro w26 hw; have hg : wr.grownBy w26 (some go23) := (by rw [hw]; exact HP25.2); have hp_ : Kd.R (Kd.int .u64) 45 w26 w.heap.size (fun _ => True) (.slice (some ⟨go23, 0, none⟩) x5_2.length co24) y243 := (by rw [hw, Ny243.out]; exact HP25.1); clear HP25; have n0_ := Aside0.mk (hp_); have n1_ := Aside0.mk ((by rw [hw]; exact below_set (HB.out) GB23.out : Below w.heap.size w w26)); clear HO_5; clear HB; have HO_5 := n0_; have HB := n1_; clear n0_ n1_; clear hg hw hp_))
                      repeat (go_quiet (first | ((with_reducible refine gate_store (t := 45) (p := 70) rfl ?_); (try (rw [drewN_self wr]; generalize hq_ : World.drewN wr _ = wr; have n0_ := Aside0.mk (Kd.R_at hq_ HO_5.out); have n1_ := Aside0.mk (below_at hq_ HB.out); clear hq_ HO_5 HB; have HO_5 := n0_; have HB := n1_; clear n0_ n1_; (try (try (obtain ⟨hx23_0, hf23_0⟩ := Kd.R_celln 0 HO_5.out ((ji20) : Int) (by first | exact p23 | exact of_eq_true p23) (by first | exact q23 | exact of_eq_true q23)))); (try (have HP25 := Kd.R_putg HO_5.out ((ji20) : Int) (IntKind.u64.wrap ((rd x5_2 (ji20)) + x7_2)))))); refine store_event (t := 45) (p := 70) (v := ?vo_w26) (w1 := (wr.setCell ⟨go23, ((ji20) : Int).toNat, none⟩ (.int .u64 (IntKind.u64.wrap ((rd x5_2 (ji20)) + x7_2))))) ?hg ?ho ?hn ?hr ?_; (case ho => rfl); (case hg => rfl); (case hn => rfl); (case hr => first | (go_simp; done) | (go_simp; rfl)); intro w26 hw; have hg : wr.grownBy w26 (some go23) := (by rw [hw]; exact HP25.2); have hp_ : Kd.R (Kd.int .u64) 45 w26 w.heap.size (fun _ => True) (.slice (some ⟨go23, 0, none⟩) x5_2.length co24) y243 := (by rw [hw, Ny243.out]; exact HP25.1); clear HP25; have n0_ := Aside0.mk (hp_); have n1_ := Aside0.mk ((by rw [hw]; exact below_set (HB.out) GB23.out : Below w.heap.size w w26)); clear HO_5; clear HB; have HO_5 := n0_; have HB := n1_; clear n0_ n1_; clear hg hw hp_)); try go_wp2_with (first | ((with_reducible refine gate_store (t := 45) (p := 70) rfl ?_); (try (rw [drewN_self wr]; generalize hq_ : World.drewN wr _ = wr; have n0_ := Aside0.mk (Kd.R_at hq_ HO_5.out); have n1_ := Aside0.mk (below_at hq_ HB.out); clear hq_ HO_5 HB; have HO_5 := n0_; have HB := n1_; clear n0_ n1_; (try (try (obtain ⟨hx23_0, hf23_0⟩ := Kd.R_celln 0 HO_5.out ((ji20) : Int) (by first | exact p23 | exact of_eq_true p23) (by first | exact q23 | exact of_eq_true q23)))); (try (have HP25 := Kd.R_putg HO_5.out ((ji20) : Int) (IntKind.u64.wrap ((rd x5_2 (ji20)) + x7_2)))))); refine store_event (t := 45) (p := 70) (v := ?vo_w26) (w1 := (wr.setCell ⟨go23, ((ji20) : Int).toNat, none⟩ (.int .u64 (IntKind.u64.wrap ((rd x5_2 (ji20)) + x7_2))))) ?hg ?ho ?hn ?hr ?_; (case ho => rfl); (case hg => rfl); (case hn => rfl); (case hr => first | (go_simp; done) | (go_simp; rfl)); intro w26 hw; have hg : wr.grownBy w26 (some go23) := (by rw [hw]; exact HP25.2); have hp_ : Kd.R (Kd.int .u64) 45 w26 w.heap.size (fun _ => True) (.slice (some ⟨go23, 0, none⟩) x5_2.length co24) y243 := (by rw [hw, Ny243.out]; exact HP25.1); clear HP25; have n0_ := Aside0.mk (hp_); have n1_ := Aside0.mk ((by rw [hw]; exact below_set (HB.out) GB23.out : Below w.heap.size w w26)); clear HO_5; clear HB; have HO_5 := n0_; have HB := n1_; clear n0_ n1_; clear hg hw hp_)))
                      go_roundg k2
                      case measure => have := HK1.out; have := HK2.out; omega
                      case rel => exact ⟨(y243), (wrap64 (x6_1 + 1)), (by first | rfl | (simp; done) | (simp [*]; done) | exact congrArg Value.bool (nonempty_l _) | (refine congrArg (Value.int _) ?_; first | omega | (unfold Go.RowKit.wrap64; omega))), H', ⟨by have := HK1.out; have := HK2.out; omega⟩, ⟨by (with_reducible repeat (first | apply Kd.R_alloc | apply Kd.R_drewN | apply Kd.R_drew)); exact HO_5.out⟩, ⟨by repeat (first | (with_reducible first | exact HB.out | apply below_alloc | apply pw_below_drewN | apply below_drew1) | exact HB.out)⟩⟩
                    · rw [if_neg c22] at H
                      exact absurd H (by simp)
                  · rw [if_neg c21] at H
                    exact absurd H (by simp)
          · rw [if_neg c8] at H
            have c8b0 : decide (x6_1 < (l0.length : Int)) = false := decide_eq_false c8
            clear c8
            obtain rfl := Option.some.inj H
            go_wp2
            repeat (go_quiet (fail); try go_wp2)
            go_ret
            exact ⟨_, by first | rfl | (simp [errW_none, errW_some] <;> rfl) | (simp only [← hji3]; first | rfl | (simp [errW_none, errW_some] <;> rfl)) | (simp [*, errW_none, errW_some] <;> rfl), by (with_reducible repeat (first | apply Kd.R_alloc | apply Kd.R_drewN | apply Kd.R_drew)); exact HO_5.out, by repeat (first | (with_reducible first | exact HB.out | apply below_alloc | apply pw_below_drewN | apply below_drew1) | exact HB.out)⟩
    · rw [if_neg c5] at H
      exact absurd H (by simp)
  · rw [if_neg c4] at H
    exact absurd H (by simp)

/-! ### palaverref02_pieces: function 43 -/
def palaverref02_pieces.f (a0 : Int) : Option (List Int) := some (([Int.tmod a0 65536, Int.tmod (IntKind.u64.wrap (Int.tdiv a0 65536)) 65536, Int.tmod (IntKind.u64.wrap (Int.tdiv a0 4294967296)) 65536, IntKind.u64.wrap (Int.tdiv a0 281474976710656)] : List Int))
set_option maxHeartbeats 64000000 in
set_option maxRecDepth 100000 in
theorem palaverref02_pieces.calls (a0 : Int) (r : List Int) (w : World) (h : palaverref02_pieces.f a0 = some r) :
    Calls Tryd.prog 43 #[.int .u64 a0] w fun e w' => ∃ v0_ : Value, e = .returned (v0_) ∧ Kd.R (Kd.int .u64) 45 w' w.heap.size (fun _ => True) v0_ r ∧ Below w.heap.size w w' := by
  have HB := Aside0.mk (Below.refl w.heap.size w)
  have H : (some (([Int.tmod a0 65536, Int.tmod (IntKind.u64.wrap (Int.tdiv a0 65536)) 65536, Int.tmod (IntKind.u64.wrap (Int.tdiv a0 4294967296)) 65536, IntKind.u64.wrap (Int.tdiv a0 281474976710656)] : List Int))) = some r := h
  clear h
  obtain ⟨y244, hy244⟩ : ∃ y_ : List Int, y_ = (([Int.tmod a0 65536, Int.tmod (IntKind.u64.wrap (Int.tdiv a0 65536)) 65536, Int.tmod (IntKind.u64.wrap (Int.tdiv a0 4294967296)) 65536, IntKind.u64.wrap (Int.tdiv a0 281474976710656)] : List Int)) := ⟨_, rfl⟩
  replace H : (some y244) = some r := by first | (rw [hy244]; with_reducible exact H) | (have H2_ := (Option.bind_some _ _).symm.trans H; rw [hy244]; with_reducible exact H2_) | (have H2_ := (Option.bind_some _ _).symm.trans H; with_reducible exact H2_) | with_reducible exact H | (rw [hy244]; exact H) | exact H
  have Ny244 := Aside0.mk hy244
  clear hy244
  obtain rfl := Option.some.inj H
  go_enter Tryd.func43, Tryd.ntmps43
  go_wp2_with (first | ((with_reducible refine gate_dst (N := 13) rfl ?_); refine Kd.R_lit (Kd.int .u64) _ 45 ?hg (N := 13) ?hd (xs := ([Int.tmod a0 65536, Int.tmod (IntKind.u64.wrap (Int.tdiv a0 65536)) 65536, Int.tmod (IntKind.u64.wrap (Int.tdiv a0 4294967296)) 65536, IntKind.u64.wrap (Int.tdiv a0 281474976710656)] : List Int)) (inner := [.int .u64 (Int.tmod a0 65536), .int .u64 (Int.tmod (IntKind.u64.wrap (Int.tdiv a0 65536)) 65536), .int .u64 (Int.tmod (IntKind.u64.wrap (Int.tdiv a0 4294967296)) 65536), .int .u64 (IntKind.u64.wrap (Int.tdiv a0 281474976710656))]) (ok := fun _ => True) (okp := fun _ => True) ?hr ?hp (fun _ hk => hk) trivial (Below.refl _ _) (Nat.le_refl _) (by simp) ?_; (case hd => rfl); (case hg => rfl); (case hr => first | (go_simp; done) | (go_simp; rfl)); (case hp => exact (Reps.one (show Kd.M (Kd.int .u64) _ _ _ (Int.tmod a0 65536) [.int .u64 (Int.tmod a0 65536)] from rfl) (Reps.one (show Kd.M (Kd.int .u64) _ _ _ (Int.tmod (IntKind.u64.wrap (Int.tdiv a0 65536)) 65536) [.int .u64 (Int.tmod (IntKind.u64.wrap (Int.tdiv a0 65536)) 65536)] from rfl) (Reps.one (show Kd.M (Kd.int .u64) _ _ _ (Int.tmod (IntKind.u64.wrap (Int.tdiv a0 4294967296)) 65536) [.int .u64 (Int.tmod (IntKind.u64.wrap (Int.tdiv a0 4294967296)) 65536)] from rfl) (Reps.one (show Kd.M (Kd.int .u64) _ _ _ (IntKind.u64.wrap (Int.tdiv a0 281474976710656)) [.int .u64 (IntKind.u64.wrap (Int.tdiv a0 281474976710656))] from rfl) (Reps.none _ _)))))); intro v245 w2 ho3 hb hg_ hnew_; clear hg_ hnew_; (first | rw [← Ny244.out] at ho3 | (simp only [Int.reduceToNat] at ho3; rw [← Ny244.out] at ho3)); have n0_ := Aside0.mk (Kd.R_lower ho3 (below_size (by repeat (first | (with_reducible first | exact HB.out | apply below_alloc | apply pw_below_drewN | apply below_drew1) | exact HB.out)))); have n1_ := Aside0.mk (below_step (by repeat (first | (with_reducible first | exact HB.out | apply below_alloc | apply pw_below_drewN | apply below_drew1) | exact HB.out)) hb); clear HB; have HO246 := n0_; have HB := n1_; clear n0_ n1_; clear hb ho3))
  go_ret
  exact ⟨_, by first | rfl | (simp [errW_none, errW_some] <;> rfl) | (simp [*, errW_none, errW_some] <;> rfl), by (with_reducible repeat (first | apply Kd.R_alloc | apply Kd.R_drewN | apply Kd.R_drew)); exact HO246.out, by repeat (first | (with_reducible first | exact HB.out | apply below_alloc | apply pw_below_drewN | apply below_drew1) | exact HB.out)⟩

/-! ### palaverref02_below: function 38 -/
mutual
def palaverref02_below.l0 : Nat → Int → Int → Int → List Int → Int → Option (Bool)
  | 0, _, _, _, _, _ => none
  | k + 1, x0, x1, x2, x7, x8 => if x8 < x1 then ((palaverref02_pieces.f x0).bind fun t250 => ((palaverref02_times.f k x7 t250).bind fun t253 => (palaverref02_below.l0 k x0 x1 x2 t253 (wrap64 (x8 + 1))))) else (if 0 ≤ (wrap64 (2 * x1)) then (if (wrap64 (2 * x1) : Int).toNat ≤ 35184372088832 then ((some (List.replicate (wrap64 (2 * x1) : Int).toNat 0 : List Int)).bind fun y256 => (if y256.length < 17592186044416 then (palaverref02_below.l1 k x7 (y256 ++ [IntKind.u64.wrap (x2)]) 20) else (none))) else (none)) else (none))
def palaverref02_below.l1 : Nat → List Int → List Int → Int → Option (Bool)
  | 0, _, _, _ => none
  | k + 1, x7, x9, x10 => if x10 ≥ 0 then (if x10 < (x7.length : Int) then (if 0 ≤ x10 then (palaverref02_below.j2 k x7 x9 x10 (rd x7 x10) 0) else (none)) else (palaverref02_below.j2 k x7 x9 x10 0 0)) else (some true)
def palaverref02_below.j2 : Nat → List Int → List Int → Int → Int → Int → Option (Bool)
  | 0, _, _, _, _, _ => none
  | k + 1, x7, x9, x10, x11, x12 => if x10 < (x9.length : Int) then (if 0 ≤ x10 then (if x11 = (rd x9 x10) then (palaverref02_below.l1 k x7 x9 (wrap64 (x10 - 1))) else (some (decide (x11 < (rd x9 x10))))) else (none)) else (if x11 = x12 then (palaverref02_below.l1 k x7 x9 (wrap64 (x10 - 1))) else (some (decide (x11 < x12))))
end
def palaverref02_below.f (k : Nat) (a0 : Int) (a1 : Int) (a2 : Int) : Option (Bool) := palaverref02_below.l0 k a0 a1 a2 (([1] : List Int)) 0
theorem palaverref02_below.mono_l : ∀ k, (∀ y0 y1 y2 y3 y4, LeO (palaverref02_below.l0 k y0 y1 y2 y3 y4) (palaverref02_below.l0 (k + 1) y0 y1 y2 y3 y4)) ∧ (∀ y0 y1 y2, LeO (palaverref02_below.l1 k y0 y1 y2) (palaverref02_below.l1 (k + 1) y0 y1 y2)) ∧ (∀ y0 y1 y2 y3 y4, LeO (palaverref02_below.j2 k y0 y1 y2 y3 y4) (palaverref02_below.j2 (k + 1) y0 y1 y2 y3 y4))
  | 0 => ⟨fun _ _ _ _ _ r h => by simp [palaverref02_below.l0] at h, fun _ _ _ r h => by simp [palaverref02_below.l1] at h, fun _ _ _ _ _ r h => by simp [palaverref02_below.j2] at h⟩
  | k + 1 => by
    obtain ⟨ih0, ih1, ih2⟩ := palaverref02_below.mono_l k
    refine ⟨?_, ?_, ?_⟩
    · intro y0 y1 y2 y3 y4
      unfold palaverref02_below.l0
      repeat' first
      | (with_reducible exact ih0 _ _ _ _ _)
      | (with_reducible exact ih1 _ _ _)
      | (with_reducible exact ih2 _ _ _ _ _)
      | (with_reducible exact palaverref02_times.mono _ _ _)
      | (with_reducible exact LeO.refl _)
      | (with_reducible exact LeO.none _)
      | (with_reducible refine LeO.ite ?_ ?_)
      | (with_reducible refine LeO.bind ?_ (fun _ => ?_))
      | exact ih0 _ _ _ _ _
      | exact ih1 _ _ _
      | exact ih2 _ _ _ _ _
      | exact palaverref02_times.mono _ _ _
      | exact LeO.none _
      | refine LeO.ite ?_ ?_
      | refine LeO.bind ?_ (fun _ => ?_)
    · intro y0 y1 y2
      unfold palaverref02_below.l1
      repeat' first
      | (with_reducible exact ih0 _ _ _ _ _)
      | (with_reducible exact ih1 _ _ _)
      | (with_reducible exact ih2 _ _ _ _ _)
      | (with_reducible exact palaverref02_times.mono _ _ _)
      | (with_reducible exact LeO.refl _)
      | (with_reducible exact LeO.none _)
      | (with_reducible refine LeO.ite ?_ ?_)
      | (with_reducible refine LeO.bind ?_ (fun _ => ?_))
      | exact ih0 _ _ _ _ _
      | exact ih1 _ _ _
      | exact ih2 _ _ _ _ _
      | exact palaverref02_times.mono _ _ _
      | exact LeO.none _
      | refine LeO.ite ?_ ?_
      | refine LeO.bind ?_ (fun _ => ?_)
    · intro y0 y1 y2 y3 y4
      unfold palaverref02_below.j2
      repeat' first
      | (with_reducible exact ih0 _ _ _ _ _)
      | (with_reducible exact ih1 _ _ _)
      | (with_reducible exact ih2 _ _ _ _ _)
      | (with_reducible exact palaverref02_times.mono _ _ _)
      | (with_reducible exact LeO.refl _)
      | (with_reducible exact LeO.none _)
      | (with_reducible refine LeO.ite ?_ ?_)
      | (with_reducible refine LeO.bind ?_ (fun _ => ?_))
      | exact ih0 _ _ _ _ _
      | exact ih1 _ _ _
      | exact ih2 _ _ _ _ _
      | exact palaverref02_times.mono _ _ _
      | exact LeO.none _
      | refine LeO.ite ?_ ?_
      | refine LeO.bind ?_ (fun _ => ?_)
theorem palaverref02_below.mono : ∀ a0 a1 a2 k, LeO (palaverref02_below.f k a0 a1 a2) (palaverref02_below.f (k + 1) a0 a1 a2) := by
  intro a0 a1 a2 k
  obtain ⟨ih0, ih1, ih2⟩ := palaverref02_below.mono_l k
  unfold palaverref02_below.f
  repeat' first
      | (with_reducible exact ih0 _ _ _ _ _)
      | (with_reducible exact ih1 _ _ _)
      | (with_reducible exact ih2 _ _ _ _ _)
      | (with_reducible exact palaverref02_times.mono _ _ _)
      | (with_reducible exact LeO.refl _)
      | (with_reducible exact LeO.none _)
      | (with_reducible refine LeO.ite ?_ ?_)
      | (with_reducible refine LeO.bind ?_ (fun _ => ?_))
      | exact ih0 _ _ _ _ _
      | exact ih1 _ _ _
      | exact ih2 _ _ _ _ _
      | exact palaverref02_times.mono _ _ _
      | exact LeO.none _
      | refine LeO.ite ?_ ?_
      | refine LeO.bind ?_ (fun _ => ?_)
set_option maxHeartbeats 64000000 in
set_option maxRecDepth 100000 in
theorem palaverref02_below.calls (k : Nat) (a0 : Int) (a1 : Int) (a2 : Int) (r : Bool) (w : World) (h : palaverref02_below.f k a0 a1 a2 = some r) :
    Calls Tryd.prog 38 #[.int .u64 a0, .int .i64 a1, .int .i64 a2] w fun e w' => e = .returned (.bool r) ∧ Below w.heap.size w w' := by
  have HB := Aside0.mk (Below.refl w.heap.size w)
  have H : (palaverref02_below.l0 k a0 a1 a2 (([1] : List Int)) 0) = some r := h
  clear h
  obtain ⟨y247, hy247⟩ : ∃ y_ : List Int, y_ = (([1] : List Int)) := ⟨_, rfl⟩
  replace H : (palaverref02_below.l0 k a0 a1 a2 y247 0) = some r := by first | (rw [hy247]; with_reducible exact H) | (have H2_ := (Option.bind_some _ _).symm.trans H; rw [hy247]; with_reducible exact H2_) | (have H2_ := (Option.bind_some _ _).symm.trans H; with_reducible exact H2_) | with_reducible exact H | (rw [hy247]; exact H) | exact H
  have Ny247 := Aside0.mk hy247
  clear hy247
  have H' := Aside0.mk H
  clear H
  go_enter Tryd.func38, Tryd.ntmps38
  go_wp2_with (first | ((with_reducible refine gate_dst (N := 13) rfl ?_); refine Kd.R_lit (Kd.int .u64) _ 45 ?hg (N := 13) ?hd (xs := ([1] : List Int)) (inner := [.int .u64 1]) (ok := fun _ => True) (okp := fun _ => True) ?hr ?hp (fun _ hk => hk) trivial (Below.refl _ _) (Nat.le_refl _) (by simp) ?_; (case hd => rfl); (case hg => rfl); (case hr => first | (go_simp; done) | (go_simp; rfl)); (case hp => exact (Reps.one (show Kd.M (Kd.int .u64) _ _ _ 1 [.int .u64 1] from rfl) (Reps.none _ _))); intro v248 w4 ho5 hb hg_ hnew_; clear hg_ hnew_; (first | rw [← Ny247.out] at ho5 | (simp only [Int.reduceToNat] at ho5; rw [← Ny247.out] at ho5)); have n0_ := Aside0.mk (Kd.R_lower ho5 (below_size (by repeat (first | (with_reducible first | exact HB.out | apply below_alloc | apply pw_below_drewN | apply below_drew1) | exact HB.out)))); have n1_ := Aside0.mk (below_step (by repeat (first | (with_reducible first | exact HB.out | apply below_alloc | apply pw_below_drewN | apply below_drew1) | exact HB.out)) hb); clear HB; have HO249 := n0_; have HB := n1_; clear n0_ n1_; clear hb ho5))
  go_loopg [7, 8] k (fun kq v7 v8 w' => ∃ (x7_1 : List Int) (x8_1 : Int), v8 = .int .i64 x8_1 ∧ Aside0 (palaverref02_below.l0 kq a0 a1 a2 x7_1 x8_1 = some r) ∧ Aside0 (kq ≤ k) ∧ Aside0 (Kd.R (Kd.int .u64) 45 w' w.heap.size (fun _ => True) v7 x7_1) ∧ Aside0 (Below w.heap.size w w'))
  case atStart => exact ⟨(y247), (0), (by first | rfl | (simp; done) | (simp [*]; done) | exact congrArg Value.bool (nonempty_l _) | (refine congrArg (Value.int _) ?_; first | omega | (unfold Go.RowKit.wrap64; omega))), H', ⟨Nat.le_refl _⟩, ⟨by (with_reducible repeat (first | apply Kd.R_alloc | apply Kd.R_drewN | apply Kd.R_drew)); exact HO249.out⟩, ⟨by repeat (first | (with_reducible first | exact HB.out | apply below_alloc | apply pw_below_drewN | apply below_drew1) | exact HB.out)⟩⟩
  case round =>
    clear H'
    (try clear p2); (try clear c3)
    obtain ⟨x7_1, x8_1, rfl, HA, HK1, HO_7, HB⟩ := hrel
    cases gk with
    | zero => exact absurd HA.out (by simp [palaverref02_below.l0])
    | succ k1 =>
      have H := HA.out
      clear HA
      simp only [palaverref02_below.l0] at H
      by_cases c6 : x8_1 < a1
      · rw [if_pos c6] at H
        have c6b0 : decide (x8_1 < a1) = true := decide_eq_true c6
        clear c6
        replace H := Option.bind_eq_some_iff.mp H
        obtain ⟨t250, A70, H⟩ := H
        replace H : ((palaverref02_times.f k1 x7_1 t250).bind fun t253 => (palaverref02_below.l0 k1 a0 a1 a2 t253 (wrap64 (x8_1 + 1)))) = some r := H
        have A7 := Aside0.mk A70
        clear A70
        replace H := Option.bind_eq_some_iff.mp H
        obtain ⟨t253, A80, H⟩ := H
        replace H : (palaverref02_below.l0 k1 a0 a1 a2 t253 (wrap64 (x8_1 + 1))) = some r := H
        have A8 := Aside0.mk A80
        clear A80
        have H' := Aside0.mk H
        clear H
        go_wp2_with (first | ((with_reducible refine gate_callee (f := 43) rfl ?_); refine goesL_ (some 21) rfl rfl Tryd.func43 (by kernel_rfl) rfl #[.int .u64 a0] rfl (by (try simp only [List.map_toArray, List.map_cons, List.map_nil]); first | done | rfl | (simp only [List.length_drop, List.length_take]; rfl)) ?_; (with_reducible refine (palaverref02_pieces.calls a0 t250 _ A7.out).mono ?_); rintro e w9 ⟨v251, rfl, ho0, hb⟩; refine ⟨_, rfl, ?_⟩; have n0_ := Aside0.mk (Kd.R_elder' (by (with_reducible repeat (first | apply Kd.R_alloc | apply Kd.R_drewN | apply Kd.R_drew)); exact HO_7.out) (Kd.R_base ho0) hb); have n1_ := Aside0.mk (Kd.R_lower (Kd.R_new' ho0 (Kd.R_lt (by (with_reducible repeat (first | apply Kd.R_alloc | apply Kd.R_drewN | apply Kd.R_drew)); exact HO_7.out))) (below_size (by repeat (first | (with_reducible first | exact HB.out | apply below_alloc | apply pw_below_drewN | apply below_drew1) | exact HB.out)))); have n2_ := Aside0.mk (below_step (by repeat (first | (with_reducible first | exact HB.out | apply below_alloc | apply pw_below_drewN | apply below_drew1) | exact HB.out)) hb); clear HO_7; clear HB; have HO_7 := n0_; have HO252 := n1_; have HB := n2_; clear n0_ n1_ n2_; (try clear hb); (try clear hb2); (try clear hk); (try clear hi); (try clear ho0); obtain ⟨Ao10, co10, eo10⟩ := Kd.R_slice HO_7.out; subst eo10; obtain ⟨Ao11, co11, eo11⟩ := Kd.R_slice HO252.out; subst eo11) | ((with_reducible refine gate_callee (f := 42) rfl ?_); refine goesL_ (some 22) rfl rfl Tryd.func42 (by kernel_rfl) rfl #[.slice Ao10 x7_1.length co10, .slice Ao11 t250.length co11] rfl (by (try simp only [List.map_toArray, List.map_cons, List.map_nil]); first | done | rfl | (simp only [List.length_drop, List.length_take]; rfl)) ?_; (with_reducible refine (palaverref02_times.calls k1 _ _ x7_1 _ _ t250 t253 _ ?side1 ?side2 ?side3 ?side4 A8.out).mono ?_); (case side1 => repeat (first | exact (Kd.R_reads' HO_7.out).2.2 | (with_reducible refine Kd.C_alloc ?_ _) | (with_reducible refine Kd.C_drewN ?_ _) | (with_reducible refine Kd.C_drew ?_))); (case side2 => exact (Kd.R_reads' HO_7.out).2.1); (case side3 => repeat (first | exact (Kd.R_reads' HO252.out).2.2 | (with_reducible refine Kd.C_alloc ?_ _) | (with_reducible refine Kd.C_drewN ?_ _) | (with_reducible refine Kd.C_drew ?_))); (case side4 => exact (Kd.R_reads' HO252.out).2.1); rintro e w12 ⟨v254, rfl, ho0, hb⟩; refine ⟨_, rfl, ?_⟩; have n0_ := Aside0.mk (Kd.R_elder' (by (with_reducible repeat (first | apply Kd.R_alloc | apply Kd.R_drewN | apply Kd.R_drew)); exact HO_7.out) (Kd.R_base ho0) hb); have n1_ := Aside0.mk (Kd.R_elder' (by (with_reducible repeat (first | apply Kd.R_alloc | apply Kd.R_drewN | apply Kd.R_drew)); exact HO252.out) (Kd.R_base ho0) hb); have n2_ := Aside0.mk (Kd.R_lower (Kd.R_new' (Kd.R_new' ho0 (Kd.R_lt (by (with_reducible repeat (first | apply Kd.R_alloc | apply Kd.R_drewN | apply Kd.R_drew)); exact HO_7.out))) (Kd.R_lt (by (with_reducible repeat (first | apply Kd.R_alloc | apply Kd.R_drewN | apply Kd.R_drew)); exact HO252.out))) (below_size (by repeat (first | (with_reducible first | exact HB.out | apply below_alloc | apply pw_below_drewN | apply below_drew1) | exact HB.out)))); have n3_ := Aside0.mk (below_step (by repeat (first | (with_reducible first | exact HB.out | apply below_alloc | apply pw_below_drewN | apply below_drew1) | exact HB.out)) hb); clear HO_7; clear HO252; clear HB; have HO_7 := n0_; have HO252 := n1_; have HO255 := n2_; have HB := n3_; clear n0_ n1_ n2_ n3_; (try clear hb); (try clear hb2); (try clear hk); (try clear hi); (try clear ho0)))
        go_roundg k1
        case measure => have := HK1.out; omega
        case rel => exact ⟨(t253), (wrap64 (x8_1 + 1)), (by first | rfl | (simp; done) | (simp [*]; done) | exact congrArg Value.bool (nonempty_l _) | (refine congrArg (Value.int _) ?_; first | omega | (unfold Go.RowKit.wrap64; omega))), H', ⟨by have := HK1.out; omega⟩, ⟨by (with_reducible repeat (first | apply Kd.R_alloc | apply Kd.R_drewN | apply Kd.R_drew)); exact Kd.R_mono HO255.out (fun _ hk => trivial)⟩, ⟨by repeat (first | (with_reducible first | exact HB.out | apply below_alloc | apply pw_below_drewN | apply below_drew1) | exact HB.out)⟩⟩
      · rw [if_neg c6] at H
        have c6b0 : decide (x8_1 < a1) = false := decide_eq_false c6
        clear c6
        obtain ⟨ji13, hji13⟩ : ∃ j_ : Int, (wrap64 (2 * a1)) = j_ := ⟨_, rfl⟩
        replace H : (if 0 ≤ (ji13) then (if (ji13 : Int).toNat ≤ 35184372088832 then ((some (List.replicate (ji13 : Int).toNat 0 : List Int)).bind fun y256 => (if y256.length < 17592186044416 then (palaverref02_below.l1 k1 x7_1 (y256 ++ [IntKind.u64.wrap (a2)]) 20) else (none))) else (none)) else (none)) = some r := by first | (rw [hji13] at H; exact H) | (simp only [hji13] at H ⊢; exact H)
        have hji13w : (IntKind.i64.wrap (2 * a1)) = ji13 := (i64_w _).trans hji13
        by_cases c14 : 0 ≤ (ji13)
        · rw [if_pos c14] at H
          have c14b0 := eq_true c14
          have c14b1 : decide (0 ≤ (ji13)) = true := decide_eq_true c14
          clear c14
          by_cases c15 : (ji13 : Int).toNat ≤ 35184372088832
          · rw [if_pos c15] at H
            have c15b0 := eq_true c15
            have c15b1 : decide ((ji13 : Int).toNat ≤ 35184372088832) = true := decide_eq_true c15
            clear c15
            obtain ⟨y256, hy256⟩ : ∃ y_ : List Int, y_ = (List.replicate (ji13 : Int).toNat 0) := ⟨_, rfl⟩
            replace H : (if y256.length < 17592186044416 then (palaverref02_below.l1 k1 x7_1 (y256 ++ [IntKind.u64.wrap (a2)]) 20) else (none)) = some r := by first | (rw [hy256]; with_reducible exact H) | (have H2_ := (Option.bind_some _ _).symm.trans H; rw [hy256]; with_reducible exact H2_) | (have H2_ := (Option.bind_some _ _).symm.trans H; with_reducible exact H2_) | with_reducible exact H | (rw [hy256]; exact H) | exact H
            have Ny256 := Aside0.mk hy256
            clear hy256
            by_cases c16 : y256.length < 17592186044416
            · rw [if_pos c16] at H
              have LMc16 := Aside0.mk c16
              clear c16
              obtain ⟨y259, hy259⟩ : ∃ y_ : List Int, y_ = (y256 ++ [IntKind.u64.wrap (a2)]) := ⟨_, rfl⟩
              replace H : (palaverref02_below.l1 k1 x7_1 y259 20) = some r := by first | (rw [hy259]; with_reducible exact H) | (have H2_ := (Option.bind_some _ _).symm.trans H; rw [hy259]; with_reducible exact H2_) | (have H2_ := (Option.bind_some _ _).symm.trans H; with_reducible exact H2_) | with_reducible exact H | (rw [hy259]; exact H) | exact H
              have Ny259 := Aside0.mk hy259
              clear hy259
              have H' := Aside0.mk H
              clear H
              go_wp2_with (first | ((with_reducible refine gate_dst (N := 25) rfl ?_); refine Kd.R_make (Kd.int .u64) _ 45 rfl (N := 25) rfl 74 _ _ rfl ji13 rfl rfl Tryd.underlying74 (.int .u64 0) 8 info45 rfl (by decide) (by omega) 0 (ok := fun _ => True) (okp := fun _ => True) rfl (fun _ hk => hk) trivial (of_decide_eq_true (by first | (with_reducible assumption) | assumption)) (Nat.le_trans (Nat.mul_le_mul_right _ (of_decide_eq_true (by first | (with_reducible assumption) | assumption) : ji13.toNat ≤ 35184372088832)) (by omega)) (Below.refl _ _) (Nat.le_refl _) ?_; intro v257 w17 ho18 hb hg_ hnew_; clear hg_ hnew_; (first | rw [← Ny256.out] at ho18 | (simp only [Int.reduceToNat] at ho18; rw [← Ny256.out] at ho18)); have n0_ := Aside0.mk (Kd.R_elder' (by (with_reducible repeat (first | apply Kd.R_alloc | apply Kd.R_drewN | apply Kd.R_drew)); exact HO_7.out) (Kd.R_base ho18) hb); have n1_ := Aside0.mk (Kd.R_lower (Kd.R_new' ho18 (Kd.R_lt (by (with_reducible repeat (first | apply Kd.R_alloc | apply Kd.R_drewN | apply Kd.R_drew)); exact HO_7.out))) (below_size (by repeat (first | (with_reducible first | exact HB.out | apply below_alloc | apply pw_below_drewN | apply below_drew1) | exact HB.out)))); have n2_ := Aside0.mk (below_step (by repeat (first | (with_reducible first | exact HB.out | apply below_alloc | apply pw_below_drewN | apply below_drew1) | exact HB.out)) hb); clear HO_7; clear HB; have HO_7 := n0_; have HO258 := n1_; have HB := n2_; clear n0_ n1_ n2_; clear hb ho18) | ((with_reducible refine gate_builtin (b := .append) (xs := #[.tmp 26, .tmp 29]) rfl ?_); at_builtin; refine Kd.R_append (Kd.int .u64) (w0 := w) w.heap.size rfl (.tmp 26) (.tmp 29) 74 45 (.int .u64 0) 8 rfl Tryd.underlying74 info45 rfl (by decide) (by omega) v257 y256 (IntKind.u64.wrap (a2)) [.int .u64 (IntKind.u64.wrap (a2))] (fun k_ => some k_ ≠ (u7 : Value).ownBlock) (fun _ => False) rfl rfl ?aP (fun _ hk => hk.elim) ?aF ?aO ?aB ?aS ?aL ?_; (case aP => exact rfl); (case aB => exact (by repeat (first | (with_reducible first | exact HB.out | apply below_alloc | apply pw_below_drewN | apply below_drew1) | exact HB.out))); (case aF => exact (fun k_ hk => Kd.fresh' (Kd.R_lt (by (with_reducible repeat (first | apply Kd.R_alloc | apply Kd.R_drewN | apply Kd.R_drew)); exact HO_7.out)) k_ hk)); (case aO => exact (by (with_reducible repeat (first | apply Kd.R_alloc | apply Kd.R_drewN | apply Kd.R_drew)); exact Kd.R_mono HO258.out (fun _ hk => hk.2))); (case aS => exact (below_size (by repeat (first | (with_reducible first | exact HB.out | apply below_alloc | apply pw_below_drewN | apply below_drew1) | exact HB.out)))); (case aL => have := LMc16.out; omega); intro v260 w19 ho hb hg hat; rw [← Ny259.out] at ho; have n0_ := Aside0.mk (Kd.R_after (ok := (fun _ => True)) (by (with_reducible repeat (first | apply Kd.R_alloc | apply Kd.R_drewN | apply Kd.R_drew)); exact HO_7.out) hg hat); have n1_ := Aside0.mk (hb); have n2_ := Aside0.mk (ho); clear HO_7; clear HB; clear HO258; have HO_7 := n0_; have HB := n1_; have HO261 := n2_; clear n0_ n1_ n2_; clear ho hb hg hat))
              go_loopg [10] k1 (fun kq v10 w' => ∃ (x10_2 : Int), v10 = .int .i64 x10_2 ∧ Aside0 (palaverref02_below.l1 kq x7_1 y259 x10_2 = some r) ∧ Aside0 (kq ≤ k1) ∧ Aside0 (Kd.R (Kd.int .u64) 45 w' w.heap.size (fun k_ => some k_ ≠ (v260 : Value).ownBlock) u7 x7_1) ∧ Aside0 (Kd.R (Kd.int .u64) 45 w' w.heap.size (fun k_ => some k_ ≠ (u7 : Value).ownBlock) v260 y259) ∧ Aside0 (Below w.heap.size w w'))
              case atStart => exact ⟨(20), (by first | rfl | (simp; done) | (simp [*]; done) | exact congrArg Value.bool (nonempty_l _) | (refine congrArg (Value.int _) ?_; first | omega | (unfold Go.RowKit.wrap64; omega))), H', ⟨Nat.le_refl _⟩, ⟨by (with_reducible repeat (first | apply Kd.R_alloc | apply Kd.R_drewN | apply Kd.R_drew)); exact Kd.R_mono HO_7.out (fun _ hk => hk.2)⟩, ⟨by (with_reducible repeat (first | apply Kd.R_alloc | apply Kd.R_drewN | apply Kd.R_drew)); exact HO261.out⟩, ⟨by repeat (first | (with_reducible first | exact HB.out | apply below_alloc | apply pw_below_drewN | apply below_drew1) | exact HB.out)⟩⟩
              case round =>
                clear H'
                (try clear c1); (try clear p2); (try clear c3); (try clear c4); (try clear c6); (try clear c6b0); (try clear p6); (try clear c14); (try clear c14b0); (try clear c14b1); (try clear c15); (try clear c15b0); (try clear c15b1); (try clear c16); (try clear p2)
                obtain ⟨x10_2, rfl, HA, HK2, HO_7, HO_9, HB⟩ := hrel
                cases gk with
                | zero => exact absurd HA.out (by simp [palaverref02_below.l1])
                | succ k2 =>
                  have H := HA.out
                  clear HA
                  simp only [palaverref02_below.l1] at H
                  by_cases c20 : x10_2 ≥ 0
                  · rw [if_pos c20] at H
                    have c20b0 : decide (0 ≤ x10_2) = true := decide_eq_true c20
                    clear c20
                    have HC21 := Aside0.mk H
                    clear H
                    obtain ⟨Ao22, co22, eo22⟩ := Kd.R_slice HO_7.out
                    subst eo22
                    go_upto_if 38 with (fail)
                    go_cut [11] (fun v11 wc => ∃ (kq : Nat) (x11_20 : Int), v11 = .int .u64 x11_20 ∧ Aside0 (palaverref02_below.j2 kq x7_1 y259 x10_2 x11_20 0 = some r) ∧ Aside0 (kq ≤ k2) ∧ Aside0 (Kd.R (Kd.int .u64) 45 wc w.heap.size (fun k_ => some k_ ≠ (v260 : Value).ownBlock) (.slice Ao22 x7_1.length co22) x7_1) ∧ Aside0 (Kd.R (Kd.int .u64) 45 wc w.heap.size (fun k_ => some k_ ≠ ((.slice Ao22 x7_1.length co22) : Value).ownBlock) v260 y259) ∧ Aside0 (Below w.heap.size w wc))
                    case first =>
                      have H := HC21.out
                      clear HC21
                      by_cases c23 : x10_2 < (x7_1.length : Int)
                      · rw [if_pos c23] at H
                        have c23b0 : decide (x10_2 < (x7_1.length : Int)) = true := decide_eq_true c23
                        clear c23
                        (first | rw [c23b0] | (simp only [i64_w, i32_w]; rw [c23b0]) | skip)
                        by_cases c24 : 0 ≤ x10_2
                        · rw [if_pos c24] at H
                          have c24b0 : decide (0 ≤ x10_2) = true := decide_eq_true c24
                          clear c24
                          have H' := Aside0.mk H
                          clear H
                          have p262 : 0 ≤ (x10_2 : Int) := of_decide_eq_true (by first | (with_reducible assumption) | assumption)
                          have q262 : x10_2 < (x7_1.length : Int) := of_decide_eq_true (by first | (with_reducible assumption) | assumption)
                          obtain ⟨ad262, e262, hx262_0⟩ := Kd.at_int (Kd.R_reads' HO_7.out).2.2 x10_2 p262 q262
                          cases e262
                          replace p262 := eq_true p262
                          replace q262 := eq_true q262
                          go_wp2
                          go_meet
                          case rel => exact ⟨_, (rd x7_1 x10_2), (by first | rfl | (simp; done) | (simp [*]; done) | exact congrArg Value.bool (nonempty_l _) | (refine congrArg (Value.int _) ?_; first | omega | (unfold Go.RowKit.wrap64; omega))), H', ⟨by have := HK1.out; have := HK2.out; first | omega | exact Nat.le_refl _⟩, ⟨by (with_reducible repeat (first | apply Kd.R_alloc | apply Kd.R_drewN | apply Kd.R_drew)); exact HO_7.out⟩, ⟨by (with_reducible repeat (first | apply Kd.R_alloc | apply Kd.R_drewN | apply Kd.R_drew)); exact HO_9.out⟩, ⟨by repeat (first | (with_reducible first | exact HB.out | apply below_alloc | apply pw_below_drewN | apply below_drew1) | exact HB.out)⟩⟩
                        · rw [if_neg c24] at H
                          exact absurd H (by simp)
                      · rw [if_neg c23] at H
                        have c23b0 : decide (x10_2 < (x7_1.length : Int)) = false := decide_eq_false c23
                        clear c23
                        (first | rw [c23b0] | (simp only [i64_w, i32_w]; rw [c23b0]) | skip)
                        have H' := Aside0.mk H
                        clear H
                        go_wp2
                        go_meet
                        case rel => exact ⟨_, (0), (by first | rfl | (simp; done) | (simp [*]; done) | exact congrArg Value.bool (nonempty_l _) | (refine congrArg (Value.int _) ?_; first | omega | (unfold Go.RowKit.wrap64; omega))), H', ⟨by have := HK1.out; have := HK2.out; first | omega | exact Nat.le_refl _⟩, ⟨by (with_reducible repeat (first | apply Kd.R_alloc | apply Kd.R_drewN | apply Kd.R_drew)); exact HO_7.out⟩, ⟨by (with_reducible repeat (first | apply Kd.R_alloc | apply Kd.R_drewN | apply Kd.R_drew)); exact HO_9.out⟩, ⟨by repeat (first | (with_reducible first | exact HB.out | apply below_alloc | apply pw_below_drewN | apply below_drew1) | exact HB.out)⟩⟩
                    case rest =>
                      clear HC21
                      (try clear c1); (try clear c2); (try clear p2); (try clear q2); (try clear hx2); (try clear c3); (try clear c4); (try clear c6); (try clear c6b0); (try clear p6); (try clear c14); (try clear c14b0); (try clear c14b1); (try clear c15); (try clear c15b0); (try clear c15b1); (try clear c16); (try clear c20); (try clear c20b0); (try clear c23); (try clear c23b0); (try clear c24); (try clear c24b0); (try clear hx262_0); (try clear p2); (try clear p262); (try clear p6); (try clear q262)
                      obtain ⟨kq, x11_20, rfl, HA, HJ20, HO_7, HO_9, HB⟩ := hcut
                      cases kq with
                      | zero => exact absurd HA.out (by simp [palaverref02_below.j2])
                      | succ kj20 =>
                        have H := HA.out
                        clear HA
                        simp only [palaverref02_below.j2] at H
                        by_cases c25 : x10_2 < (y259.length : Int)
                        · rw [if_pos c25] at H
                          have c25b0 : decide (x10_2 < (y259.length : Int)) = true := decide_eq_true c25
                          clear c25
                          by_cases c26 : 0 ≤ x10_2
                          · rw [if_pos c26] at H
                            have c26b0 : decide (0 ≤ x10_2) = true := decide_eq_true c26
                            clear c26
                            by_cases c27 : x11_20 = (rd y259 x10_2)
                            · rw [if_pos c27] at H
                              have c27b0 : (x11_20 == (rd y259 x10_2)) = true := beq_iff_eq.mpr c27
                              have c27b1 : (x11_20 != (rd y259 x10_2)) = false := bne_eq_false_iff_eq.mpr c27
                              clear c27
                              have H' := Aside0.mk H
                              clear H
                              obtain ⟨Ao28, co28, eo28⟩ := Kd.R_slice HO_9.out
                              subst eo28
                              have p263 : 0 ≤ (x10_2 : Int) := of_decide_eq_true (by first | (with_reducible assumption) | assumption)
                              have q263 : x10_2 < (y259.length : Int) := of_decide_eq_true (by first | (with_reducible assumption) | assumption)
                              obtain ⟨ad263, e263, hx263_0⟩ := Kd.at_int (Kd.R_reads' HO_9.out).2.2 x10_2 p263 q263
                              cases e263
                              replace p263 := eq_true p263
                              replace q263 := eq_true q263
                              go_wp2
                              go_roundg kj20
                              case measure => have := HK1.out; have := HK2.out; have := HJ20.out; omega
                              case rel => exact ⟨(wrap64 (x10_2 - 1)), (by first | rfl | (simp; done) | (simp [*]; done) | exact congrArg Value.bool (nonempty_l _) | (refine congrArg (Value.int _) ?_; first | omega | (unfold Go.RowKit.wrap64; omega))), H', ⟨by have := HK1.out; have := HK2.out; have := HJ20.out; omega⟩, ⟨by (with_reducible repeat (first | apply Kd.R_alloc | apply Kd.R_drewN | apply Kd.R_drew)); exact HO_7.out⟩, ⟨by (with_reducible repeat (first | apply Kd.R_alloc | apply Kd.R_drewN | apply Kd.R_drew)); exact HO_9.out⟩, ⟨by repeat (first | (with_reducible first | exact HB.out | apply below_alloc | apply pw_below_drewN | apply below_drew1) | exact HB.out)⟩⟩
                            · rw [if_neg c27] at H
                              have c27b0 : (x11_20 == (rd y259 x10_2)) = false := beq_eq_false_iff_ne.mpr c27
                              have c27b1 : (x11_20 != (rd y259 x10_2)) = true := bne_iff_ne.mpr c27
                              obtain rfl := Option.some.inj H
                              obtain ⟨Ao29, co29, eo29⟩ := Kd.R_slice HO_9.out
                              subst eo29
                              have p263 : 0 ≤ (x10_2 : Int) := of_decide_eq_true (by first | (with_reducible assumption) | assumption)
                              have q263 : x10_2 < (y259.length : Int) := of_decide_eq_true (by first | (with_reducible assumption) | assumption)
                              obtain ⟨ad263, e263, hx263_0⟩ := Kd.at_int (Kd.R_reads' HO_9.out).2.2 x10_2 p263 q263
                              cases e263
                              replace p263 := eq_true p263
                              replace q263 := eq_true q263
                              go_wp2
                              go_ret
                              exact ⟨by first | rfl | (simp [errW_none, errW_some] <;> rfl) | (simp only [← hji13]; first | rfl | (simp [errW_none, errW_some] <;> rfl)) | (simp [*, errW_none, errW_some] <;> rfl), by repeat (first | (with_reducible first | exact HB.out | apply below_alloc | apply pw_below_drewN | apply below_drew1) | exact HB.out)⟩
                          · rw [if_neg c26] at H
                            exact absurd H (by simp)
                        · rw [if_neg c25] at H
                          have c25b0 : decide (x10_2 < (y259.length : Int)) = false := decide_eq_false c25
                          clear c25
                          by_cases c30 : x11_20 = 0
                          · rw [if_pos c30] at H
                            have c30b0 : (x11_20 == 0) = true := beq_iff_eq.mpr c30
                            have c30b1 : (x11_20 != 0) = false := bne_eq_false_iff_eq.mpr c30
                            clear c30
                            have H' := Aside0.mk H
                            clear H
                            obtain ⟨Ao31, co31, eo31⟩ := Kd.R_slice HO_9.out
                            subst eo31
                            go_wp2
                            go_roundg kj20
                            case measure => have := HK1.out; have := HK2.out; have := HJ20.out; omega
                            case rel => exact ⟨(wrap64 (x10_2 - 1)), (by first | rfl | (simp; done) | (simp [*]; done) | exact congrArg Value.bool (nonempty_l _) | (refine congrArg (Value.int _) ?_; first | omega | (unfold Go.RowKit.wrap64; omega))), H', ⟨by have := HK1.out; have := HK2.out; have := HJ20.out; omega⟩, ⟨by (with_reducible repeat (first | apply Kd.R_alloc | apply Kd.R_drewN | apply Kd.R_drew)); exact HO_7.out⟩, ⟨by (with_reducible repeat (first | apply Kd.R_alloc | apply Kd.R_drewN | apply Kd.R_drew)); exact HO_9.out⟩, ⟨by repeat (first | (with_reducible first | exact HB.out | apply below_alloc | apply pw_below_drewN | apply below_drew1) | exact HB.out)⟩⟩
                          · rw [if_neg c30] at H
                            have c30b0 : (x11_20 == 0) = false := beq_eq_false_iff_ne.mpr c30
                            have c30b1 : (x11_20 != 0) = true := bne_iff_ne.mpr c30
                            obtain rfl := Option.some.inj H
                            obtain ⟨Ao32, co32, eo32⟩ := Kd.R_slice HO_9.out
                            subst eo32
                            go_wp2
                            go_ret
                            exact ⟨by first | rfl | (simp [errW_none, errW_some] <;> rfl) | (simp only [← hji13]; first | rfl | (simp [errW_none, errW_some] <;> rfl)) | (simp [*, errW_none, errW_some] <;> rfl), by repeat (first | (with_reducible first | exact HB.out | apply below_alloc | apply pw_below_drewN | apply below_drew1) | exact HB.out)⟩
                  · rw [if_neg c20] at H
                    have c20b0 : decide (0 ≤ x10_2) = false := decide_eq_false c20
                    clear c20
                    obtain rfl := Option.some.inj H
                    go_wp2
                    go_ret
                    exact ⟨by first | rfl | (simp [errW_none, errW_some] <;> rfl) | (simp only [← hji13]; first | rfl | (simp [errW_none, errW_some] <;> rfl)) | (simp [*, errW_none, errW_some] <;> rfl), by repeat (first | (with_reducible first | exact HB.out | apply below_alloc | apply pw_below_drewN | apply below_drew1) | exact HB.out)⟩
            · rw [if_neg c16] at H
              exact absurd H (by simp)
          · rw [if_neg c15] at H
            exact absurd H (by simp)
        · rw [if_neg c14] at H
          exact absurd H (by simp)

/-! ### palaverref02_root: function 31 -/
def palaverref02_root.l0 : Nat → Int → Int → Int → Int → Option (Int)
  | 0, _, _, _, _ => none
  | k + 1, x0, x1, x5, x6 => if (IntKind.u64.wrap (x5 + 1)) < x6 then ((palaverref02_below.f k (IntKind.u64.wrap (Int.tdiv (IntKind.u64.wrap (x5 + x6)) 2)) x1 x0).bind fun t264 => (if t264 = true then (palaverref02_root.l0 k x0 x1 (IntKind.u64.wrap (Int.tdiv (IntKind.u64.wrap (x5 + x6)) 2)) x6) else (palaverref02_root.l0 k x0 x1 x5 (IntKind.u64.wrap (Int.tdiv (IntKind.u64.wrap (x5 + x6)) 2))))) else (some ((Int.tmod x5 4294967296) % 4294967296))
def palaverref02_root.f (k : Nat) (a0 : Int) (a1 : Int) : Option (Int) := palaverref02_root.l0 k a0 a1 0 68719476736
theorem palaverref02_root.mono_l : ∀ k, (∀ y0 y1 y2 y3, LeO (palaverref02_root.l0 k y0 y1 y2 y3) (palaverref02_root.l0 (k + 1) y0 y1 y2 y3))
  | 0 => fun _ _ _ _ r h => by simp [palaverref02_root.l0] at h
  | k + 1 => by
    have ih0 := palaverref02_root.mono_l k
    · intro y0 y1 y2 y3
      unfold palaverref02_root.l0
      repeat' first
      | (with_reducible exact ih0 _ _ _ _)
      | (with_reducible exact palaverref02_below.mono _ _ _ _)
      | (with_reducible exact LeO.refl _)
      | (with_reducible exact LeO.none _)
      | (with_reducible refine LeO.ite ?_ ?_)
      | (with_reducible refine LeO.bind ?_ (fun _ => ?_))
      | exact ih0 _ _ _ _
      | exact palaverref02_below.mono _ _ _ _
      | exact LeO.none _
      | refine LeO.ite ?_ ?_
      | refine LeO.bind ?_ (fun _ => ?_)
theorem palaverref02_root.mono : ∀ a0 a1 k, LeO (palaverref02_root.f k a0 a1) (palaverref02_root.f (k + 1) a0 a1) := by
  intro a0 a1 k
  have ih0 := palaverref02_root.mono_l k
  unfold palaverref02_root.f
  repeat' first
      | (with_reducible exact ih0 _ _ _ _)
      | (with_reducible exact palaverref02_below.mono _ _ _ _)
      | (with_reducible exact LeO.refl _)
      | (with_reducible exact LeO.none _)
      | (with_reducible refine LeO.ite ?_ ?_)
      | (with_reducible refine LeO.bind ?_ (fun _ => ?_))
      | exact ih0 _ _ _ _
      | exact palaverref02_below.mono _ _ _ _
      | exact LeO.none _
      | refine LeO.ite ?_ ?_
      | refine LeO.bind ?_ (fun _ => ?_)
set_option maxHeartbeats 64000000 in
set_option maxRecDepth 100000 in
theorem palaverref02_root.calls (k : Nat) (a0 : Int) (a1 : Int) (r : Int) (w : World) (h : palaverref02_root.f k a0 a1 = some r) :
    Calls Tryd.prog 31 #[.int .i64 a0, .int .i64 a1] w fun e w' => e = .returned (.int .u32 r) ∧ Below w.heap.size w w' := by
  have HB := Aside0.mk (Below.refl w.heap.size w)
  have H : (palaverref02_root.l0 k a0 a1 0 68719476736) = some r := h
  clear h
  have H' := Aside0.mk H
  clear H
  go_enter Tryd.func31, Tryd.ntmps31
  go_wp2
  go_loopg [5, 6] k (fun kq v5 v6 w' => ∃ (x5_1 : Int) (x6_1 : Int), v5 = .int .u64 x5_1 ∧ v6 = .int .u64 x6_1 ∧ Aside0 (palaverref02_root.l0 kq a0 a1 x5_1 x6_1 = some r) ∧ Aside0 (kq ≤ k) ∧ Aside0 (Below w.heap.size w w'))
  case atStart => exact ⟨(0), (68719476736), (by first | rfl | (simp; done) | (simp [*]; done) | exact congrArg Value.bool (nonempty_l _) | (refine congrArg (Value.int _) ?_; first | omega | (unfold Go.RowKit.wrap64; omega))), (by first | rfl | (simp; done) | (simp [*]; done) | exact congrArg Value.bool (nonempty_l _) | (refine congrArg (Value.int _) ?_; first | omega | (unfold Go.RowKit.wrap64; omega))), H', ⟨Nat.le_refl _⟩, ⟨by repeat (first | (with_reducible first | exact HB.out | apply below_alloc | apply pw_below_drewN | apply below_drew1) | exact HB.out)⟩⟩
  case round =>
    clear H'
    (try clear p2)
    obtain ⟨x5_1, x6_1, rfl, rfl, HA, HK1, HB⟩ := hrel
    cases gk with
    | zero => exact absurd HA.out (by simp [palaverref02_root.l0])
    | succ k1 =>
      have H := HA.out
      clear HA
      simp only [palaverref02_root.l0] at H
      by_cases c3 : (IntKind.u64.wrap (x5_1 + 1)) < x6_1
      · rw [if_pos c3] at H
        have c3b0 : decide ((IntKind.u64.wrap (x5_1 + 1)) < x6_1) = true := decide_eq_true c3
        clear c3
        replace H := Option.bind_eq_some_iff.mp H
        obtain ⟨t264, A40, H⟩ := H
        replace H : (if t264 = true then (palaverref02_root.l0 k1 a0 a1 (IntKind.u64.wrap (Int.tdiv (IntKind.u64.wrap (x5_1 + x6_1)) 2)) x6_1) else (palaverref02_root.l0 k1 a0 a1 x5_1 (IntKind.u64.wrap (Int.tdiv (IntKind.u64.wrap (x5_1 + x6_1)) 2)))) = some r := H
        have A4 := Aside0.mk A40
        clear A40
        by_cases c5 : t264 = true
        · subst c5
          have H1 : (palaverref02_root.l0 k1 a0 a1 (IntKind.u64.wrap (Int.tdiv (IntKind.u64.wrap (x5_1 + x6_1)) 2)) x6_1) = some r := by rw [if_pos rfl] at H; exact H
          clear H
          have H := H1
          clear H1
          have H' := Aside0.mk H
          clear H
          go_wp2_with (first | ((with_reducible refine gate_callee (f := 38) rfl ?_); refine goesL_ (some 19) rfl rfl Tryd.func38 (by kernel_rfl) rfl #[.int .u64 (IntKind.u64.wrap (Int.tdiv (IntKind.u64.wrap (x5_1 + x6_1)) 2)), .int .i64 a1, .int .i64 a0] rfl (by (try simp only [List.map_toArray, List.map_cons, List.map_nil]); first | done | rfl | (simp only [List.length_drop, List.length_take]; rfl)) ?_; (with_reducible refine (palaverref02_below.calls k1 (IntKind.u64.wrap (Int.tdiv (IntKind.u64.wrap (x5_1 + x6_1)) 2)) a1 a0 true _ A4.out).mono ?_); rintro e w6 ⟨rfl, hb⟩; refine ⟨_, rfl, ?_⟩; have n0_ := Aside0.mk (below_step (by repeat (first | (with_reducible first | exact HB.out | apply below_alloc | apply pw_below_drewN | apply below_drew1) | exact HB.out)) hb); clear HB; have HB := n0_; clear n0_; (try clear hb); (try clear hb2); (try clear hk); (try clear hi)))
          go_roundg k1
          case measure => have := HK1.out; omega
          case rel => exact ⟨(IntKind.u64.wrap (Int.tdiv (IntKind.u64.wrap (x5_1 + x6_1)) 2)), (x6_1), (by first | rfl | (simp; done) | (simp [*]; done) | exact congrArg Value.bool (nonempty_l _) | (refine congrArg (Value.int _) ?_; first | omega | (unfold Go.RowKit.wrap64; omega))), (by first | rfl | (simp; done) | (simp [*]; done) | exact congrArg Value.bool (nonempty_l _) | (refine congrArg (Value.int _) ?_; first | omega | (unfold Go.RowKit.wrap64; omega))), H', ⟨by have := HK1.out; omega⟩, ⟨by repeat (first | (with_reducible first | exact HB.out | apply below_alloc | apply pw_below_drewN | apply below_drew1) | exact HB.out)⟩⟩
        · replace c5 := Bool.eq_false_iff.mpr c5
          subst c5
          have H1 : (palaverref02_root.l0 k1 a0 a1 x5_1 (IntKind.u64.wrap (Int.tdiv (IntKind.u64.wrap (x5_1 + x6_1)) 2))) = some r := by rw [if_neg (show ¬ (false = true) by decide)] at H; exact H
          clear H
          have H := H1
          clear H1
          have H' := Aside0.mk H
          clear H
          go_wp2_with (first | ((with_reducible refine gate_callee (f := 38) rfl ?_); refine goesL_ (some 19) rfl rfl Tryd.func38 (by kernel_rfl) rfl #[.int .u64 (IntKind.u64.wrap (Int.tdiv (IntKind.u64.wrap (x5_1 + x6_1)) 2)), .int .i64 a1, .int .i64 a0] rfl (by (try simp only [List.map_toArray, List.map_cons, List.map_nil]); first | done | rfl | (simp only [List.length_drop, List.length_take]; rfl)) ?_; (with_reducible refine (palaverref02_below.calls k1 (IntKind.u64.wrap (Int.tdiv (IntKind.u64.wrap (x5_1 + x6_1)) 2)) a1 a0 false _ A4.out).mono ?_); rintro e w7 ⟨rfl, hb⟩; refine ⟨_, rfl, ?_⟩; have n0_ := Aside0.mk (below_step (by repeat (first | (with_reducible first | exact HB.out | apply below_alloc | apply pw_below_drewN | apply below_drew1) | exact HB.out)) hb); clear HB; have HB := n0_; clear n0_; (try clear hb); (try clear hb2); (try clear hk); (try clear hi)))
          go_roundg k1
          case measure => have := HK1.out; omega
          case rel => exact ⟨(x5_1), (IntKind.u64.wrap (Int.tdiv (IntKind.u64.wrap (x5_1 + x6_1)) 2)), (by first | rfl | (simp; done) | (simp [*]; done) | exact congrArg Value.bool (nonempty_l _) | (refine congrArg (Value.int _) ?_; first | omega | (unfold Go.RowKit.wrap64; omega))), (by first | rfl | (simp; done) | (simp [*]; done) | exact congrArg Value.bool (nonempty_l _) | (refine congrArg (Value.int _) ?_; first | omega | (unfold Go.RowKit.wrap64; omega))), H', ⟨by have := HK1.out; omega⟩, ⟨by repeat (first | (with_reducible first | exact HB.out | apply below_alloc | apply pw_below_drewN | apply below_drew1) | exact HB.out)⟩⟩
      · rw [if_neg c3] at H
        have c3b0 : decide ((IntKind.u64.wrap (x5_1 + 1)) < x6_1) = false := decide_eq_false c3
        clear c3
        obtain rfl := Option.some.inj H
        go_wp2
        go_ret
        exact ⟨by first | rfl | (simp [errW_none, errW_some] <;> rfl) | (simp [*, errW_none, errW_some] <;> rfl), by repeat (first | (with_reducible first | exact HB.out | apply below_alloc | apply pw_below_drewN | apply below_drew1) | exact HB.out)⟩

/-! ### palaverref02_isPrime: function 39 -/
def palaverref02_isPrime.l0 : Nat → Int → Int → Option (Bool)
  | 0, _, _ => none
  | k + 1, x0, x3 => if (wrap64 (x3 * x3)) ≤ x0 then (if x3 = 0 then (none) else (if (Int.tmod x0 x3) = 0 then (some false) else (palaverref02_isPrime.l0 k x0 (wrap64 (x3 + 1))))) else (some true)
def palaverref02_isPrime.f (k : Nat) (a0 : Int) : Option (Bool) := palaverref02_isPrime.l0 k a0 2
theorem palaverref02_isPrime.mono_l : ∀ k, (∀ y0 y1, LeO (palaverref02_isPrime.l0 k y0 y1) (palaverref02_isPrime.l0 (k + 1) y0 y1))
  | 0 => fun _ _ r h => by simp [palaverref02_isPrime.l0] at h
  | k + 1 => by
    have ih0 := palaverref02_isPrime.mono_l k
    · intro y0 y1
      unfold palaverref02_isPrime.l0
      repeat' first
      | (with_reducible exact ih0 _ _)
      | (with_reducible exact LeO.refl _)
      | (with_reducible exact LeO.none _)
      | (with_reducible refine LeO.ite ?_ ?_)
      | (with_reducible refine LeO.bind ?_ (fun _ => ?_))
      | exact ih0 _ _
      | exact LeO.none _
      | refine LeO.ite ?_ ?_
      | refine LeO.bind ?_ (fun _ => ?_)
theorem palaverref02_isPrime.mono : ∀ a0 k, LeO (palaverref02_isPrime.f k a0) (palaverref02_isPrime.f (k + 1) a0) := by
  intro a0 k
  have ih0 := palaverref02_isPrime.mono_l k
  unfold palaverref02_isPrime.f
  repeat' first
      | (with_reducible exact ih0 _ _)
      | (with_reducible exact LeO.refl _)
      | (with_reducible exact LeO.none _)
      | (with_reducible refine LeO.ite ?_ ?_)
      | (with_reducible refine LeO.bind ?_ (fun _ => ?_))
      | exact ih0 _ _
      | exact LeO.none _
      | refine LeO.ite ?_ ?_
      | refine LeO.bind ?_ (fun _ => ?_)
set_option maxHeartbeats 64000000 in
set_option maxRecDepth 100000 in
theorem palaverref02_isPrime.calls (k : Nat) (a0 : Int) (r : Bool) (w : World) (h : palaverref02_isPrime.f k a0 = some r) :
    Calls Tryd.prog 39 #[.int .i64 a0] w fun e w' => e = .returned (.bool r) ∧ Drawn0 w w' := by
  have H : (palaverref02_isPrime.l0 k a0 2) = some r := h
  clear h
  have H' := Aside0.mk H
  clear H
  go_enter Tryd.func39, Tryd.ntmps39
  go_wp2
  go_loopg [3] k (fun kq v3 w' => ∃ (x3_1 : Int), v3 = .int .i64 x3_1 ∧ Aside0 (palaverref02_isPrime.l0 kq a0 x3_1 = some r) ∧ Aside0 (kq ≤ k) ∧ Drawn0 w w')
  case atStart => exact ⟨(2), (by first | rfl | (simp; done) | (simp [*]; done) | exact congrArg Value.bool (nonempty_l _) | (refine congrArg (Value.int _) ?_; first | omega | (unfold Go.RowKit.wrap64; omega))), H', ⟨Nat.le_refl _⟩, by repeat (first | exact Drawn0.refl _ | apply Drawn0.step)⟩
  case round =>
    clear H'
    obtain ⟨x3_1, rfl, HA, HK1, ⟨m1, rfl⟩⟩ := hrel
    cases gk with
    | zero => exact absurd HA.out (by simp [palaverref02_isPrime.l0])
    | succ k1 =>
      have H := HA.out
      clear HA
      simp only [palaverref02_isPrime.l0] at H
      by_cases c2 : (wrap64 (x3_1 * x3_1)) ≤ a0
      · rw [if_pos c2] at H
        have c2b0 : decide ((wrap64 (x3_1 * x3_1)) ≤ a0) = true := decide_eq_true c2
        clear c2
        by_cases c3 : x3_1 = 0
        · rw [if_pos c3] at H
          exact absurd H (by simp)
        · rw [if_neg c3] at H
          have c3b0 : (x3_1 == 0) = false := beq_eq_false_iff_ne.mpr c3
          have c3b1 : (x3_1 != 0) = true := bne_iff_ne.mpr c3
          by_cases c4 : (Int.tmod a0 x3_1) = 0
          · rw [if_pos c4] at H
            have c4b0 : ((Int.tmod a0 x3_1) == 0) = true := beq_iff_eq.mpr c4
            have c4b1 : ((Int.tmod a0 x3_1) != 0) = false := bne_eq_false_iff_eq.mpr c4
            clear c4
            obtain rfl := Option.some.inj H
            go_wp2
            go_ret
            exact ⟨by first | rfl | (simp; done) | (simp [*]; done) | exact congrArg Value.bool (nonempty_l _) | (refine congrArg (Value.int _) ?_; first | omega | (unfold Go.RowKit.wrap64; omega)), by repeat (first | exact Drawn0.refl _ | apply Drawn0.step)⟩
          · rw [if_neg c4] at H
            have c4b0 : ((Int.tmod a0 x3_1) == 0) = false := beq_eq_false_iff_ne.mpr c4
            have c4b1 : ((Int.tmod a0 x3_1) != 0) = true := bne_iff_ne.mpr c4
            have H' := Aside0.mk H
            clear H
            go_wp2
            go_roundg k1
            case measure => have := HK1.out; omega
            case rel => exact ⟨(wrap64 (x3_1 + 1)), (by first | rfl | (simp; done) | (simp [*]; done) | exact congrArg Value.bool (nonempty_l _) | (refine congrArg (Value.int _) ?_; first | omega | (unfold Go.RowKit.wrap64; omega))), H', ⟨by have := HK1.out; omega⟩, by repeat (first | exact Drawn0.refl _ | apply Drawn0.step)⟩
      · rw [if_neg c2] at H
        have c2b0 : decide ((wrap64 (x3_1 * x3_1)) ≤ a0) = false := decide_eq_false c2
        clear c2
        obtain rfl := Option.some.inj H
        go_wp2
        go_ret
        exact ⟨by first | rfl | (simp; done) | (simp [*]; done) | exact congrArg Value.bool (nonempty_l _) | (refine congrArg (Value.int _) ?_; first | omega | (unfold Go.RowKit.wrap64; omega)), by repeat (first | exact Drawn0.refl _ | apply Drawn0.step)⟩

end Go.Proofs.YtlnodlhlbaigkaaDoor.PP
