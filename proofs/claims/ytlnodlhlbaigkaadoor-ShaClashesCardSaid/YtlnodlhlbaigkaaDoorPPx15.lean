-- WRITTEN BY a program of this work (wip/ownprint.py), for this seat
import Derived.Test.YtlnodlhlbaigkaaDoorPPx0
import Derived.Test.YtlnodlhlbaigkaaDoorPPx3
namespace Go.Proofs.YtlnodlhlbaigkaaDoor.PP
open Go.RowKit Go.Proofs.YtlnodlhlbaigkaaDoorW.PrintWords Go.Proofs.YtlnodlhlbaigkaaDoorW.PrintLast Go.Proofs.YtlnodlhlbaigkaaDoorW.PrintMore
attribute [local go_sem] max2_int min2_int max_two min_two max_three min_three max_four min_four   -- for this text's walks alone
set_option linter.unusedVariables false
set_option linter.unusedSimpArgs false

/-! ### sha_Clash: function 20 -/
mutual
def sha_Clash.l0 : Nat → List ByteArray → List ByteArray → List ByteArray → Int → Int → Option (Int × Int × Bool)
  | 0, _, _, _, _, _ => none
  | k + 1, x0, x5, x13, x14, x15 => if x15 < x14 then (if 0 ≤ x15 then (if x15 < (x13.length : Int) then ((sha_Sum.f k (rdOf ByteArray.empty x13 x15)).bind fun t322 => (if x15 < (x5.length : Int) then (sha_Clash.l0 k x0 (x5.set (x15 : Int).toNat t322) x13 x14 (wrap64 (x15 + 1))) else (none))) else (none)) else (none)) else (sha_Clash.l1 k x0 x5 (x0.length : Int) 0)
def sha_Clash.l1 : Nat → List ByteArray → List ByteArray → Int → Int → Option (Int × Int × Bool)
  | 0, _, _, _, _ => none
  | k + 1, x0, x5, x27, x28 => if x28 < x27 then (sha_Clash.l2 k x0 x5 x28 (wrap64 (x28 + 1)) x27 x28) else (some (0, 0, false))
def sha_Clash.l2 : Nat → List ByteArray → List ByteArray → Int → Int → Int → Int → Option (Int × Int × Bool)
  | 0, _, _, _, _, _, _ => none
  | k + 1, x0, x5, x8, x9, x27, x28 => if x9 < (x0.length : Int) then (if 0 ≤ x8 then (if x8 < (x5.length : Int) then (if 0 ≤ x9 then (if x9 < (x5.length : Int) then (if (rdOf ByteArray.empty x5 x8).toList = (rdOf ByteArray.empty x5 x9).toList then (if x8 < (x0.length : Int) then (if (rdOf ByteArray.empty x0 x8).toList = (rdOf ByteArray.empty x0 x9).toList then (sha_Clash.l2 k x0 x5 x8 (wrap64 (x9 + 1)) x27 x28) else (some (x8, x9, true))) else (none)) else (sha_Clash.l2 k x0 x5 x8 (wrap64 (x9 + 1)) x27 x28)) else (none)) else (none)) else (none)) else (none)) else (sha_Clash.l1 k x0 x5 x27 (wrap64 (x28 + 1)))
end
def sha_Clash.f (k : Nat) (l0 : List ByteArray) : Option (Int × Int × Bool) := if 0 ≤ (l0.length : Int) then (if ((l0.length : Int) : Int).toNat ≤ 17592186044416 then (sha_Clash.l0 k l0 (List.replicate ((l0.length : Int) : Int).toNat (⟨#[]⟩ : ByteArray)) l0 (l0.length : Int) 0) else (none)) else (none)
theorem sha_Clash.mono_l : ∀ k, (∀ y0 y1 y2 y3 y4, LeO (sha_Clash.l0 k y0 y1 y2 y3 y4) (sha_Clash.l0 (k + 1) y0 y1 y2 y3 y4)) ∧ (∀ y0 y1 y2 y3, LeO (sha_Clash.l1 k y0 y1 y2 y3) (sha_Clash.l1 (k + 1) y0 y1 y2 y3)) ∧ (∀ y0 y1 y2 y3 y4 y5, LeO (sha_Clash.l2 k y0 y1 y2 y3 y4 y5) (sha_Clash.l2 (k + 1) y0 y1 y2 y3 y4 y5))
  | 0 => ⟨fun _ _ _ _ _ r h => by simp [sha_Clash.l0] at h, fun _ _ _ _ r h => by simp [sha_Clash.l1] at h, fun _ _ _ _ _ _ r h => by simp [sha_Clash.l2] at h⟩
  | k + 1 => by
    obtain ⟨ih0, ih1, ih2⟩ := sha_Clash.mono_l k
    refine ⟨?_, ?_, ?_⟩
    · intro y0 y1 y2 y3 y4
      unfold sha_Clash.l0
      repeat' first
      | (with_reducible exact ih0 _ _ _ _ _)
      | (with_reducible exact ih1 _ _ _ _)
      | (with_reducible exact ih2 _ _ _ _ _ _)
      | (with_reducible exact sha_Sum.mono _ _)
      | (with_reducible exact LeO.refl _)
      | (with_reducible exact LeO.none _)
      | (with_reducible refine LeO.ite ?_ ?_)
      | (with_reducible refine LeO.bind ?_ (fun _ => ?_))
      | exact ih0 _ _ _ _ _
      | exact ih1 _ _ _ _
      | exact ih2 _ _ _ _ _ _
      | exact sha_Sum.mono _ _
      | exact LeO.none _
      | refine LeO.ite ?_ ?_
      | refine LeO.bind ?_ (fun _ => ?_)
    · intro y0 y1 y2 y3
      unfold sha_Clash.l1
      repeat' first
      | (with_reducible exact ih0 _ _ _ _ _)
      | (with_reducible exact ih1 _ _ _ _)
      | (with_reducible exact ih2 _ _ _ _ _ _)
      | (with_reducible exact sha_Sum.mono _ _)
      | (with_reducible exact LeO.refl _)
      | (with_reducible exact LeO.none _)
      | (with_reducible refine LeO.ite ?_ ?_)
      | (with_reducible refine LeO.bind ?_ (fun _ => ?_))
      | exact ih0 _ _ _ _ _
      | exact ih1 _ _ _ _
      | exact ih2 _ _ _ _ _ _
      | exact sha_Sum.mono _ _
      | exact LeO.none _
      | refine LeO.ite ?_ ?_
      | refine LeO.bind ?_ (fun _ => ?_)
    · intro y0 y1 y2 y3 y4 y5
      unfold sha_Clash.l2
      repeat' first
      | (with_reducible exact ih0 _ _ _ _ _)
      | (with_reducible exact ih1 _ _ _ _)
      | (with_reducible exact ih2 _ _ _ _ _ _)
      | (with_reducible exact sha_Sum.mono _ _)
      | (with_reducible exact LeO.refl _)
      | (with_reducible exact LeO.none _)
      | (with_reducible refine LeO.ite ?_ ?_)
      | (with_reducible refine LeO.bind ?_ (fun _ => ?_))
      | exact ih0 _ _ _ _ _
      | exact ih1 _ _ _ _
      | exact ih2 _ _ _ _ _ _
      | exact sha_Sum.mono _ _
      | exact LeO.none _
      | refine LeO.ite ?_ ?_
      | refine LeO.bind ?_ (fun _ => ?_)
theorem sha_Clash.mono : ∀ a0 k, LeO (sha_Clash.f k a0) (sha_Clash.f (k + 1) a0) := by
  intro a0 k
  obtain ⟨ih0, ih1, ih2⟩ := sha_Clash.mono_l k
  unfold sha_Clash.f
  repeat' first
      | (with_reducible exact ih0 _ _ _ _ _)
      | (with_reducible exact ih1 _ _ _ _)
      | (with_reducible exact ih2 _ _ _ _ _ _)
      | (with_reducible exact sha_Sum.mono _ _)
      | (with_reducible exact LeO.refl _)
      | (with_reducible exact LeO.none _)
      | (with_reducible refine LeO.ite ?_ ?_)
      | (with_reducible refine LeO.bind ?_ (fun _ => ?_))
      | exact ih0 _ _ _ _ _
      | exact ih1 _ _ _ _
      | exact ih2 _ _ _ _ _ _
      | exact sha_Sum.mono _ _
      | exact LeO.none _
      | refine LeO.ite ?_ ?_
      | refine LeO.bind ?_ (fun _ => ?_)
set_option maxHeartbeats 64000000 in
set_option maxRecDepth 100000 in
theorem sha_Clash.calls (k : Nat) (A0 : Option Addr) (c0 : Nat) (l0 : List ByteArray) (r1 : Int) (r2 : Int) (r3 : Bool) (w : World) (hr0 : Kd.C Kd.string w A0 l0.length l0) (hc0 : l0.length ≤ c0) (hrG : Kd.C (Kd.int .u32) w (some ⟨0, 0, none⟩) keysL.length keysL) (h : sha_Clash.f k l0 = some (r1, r2, r3)) :
    Calls Tryd.prog 20 #[.slice A0 l0.length c0] w fun e w' => e = .returned (.tuple #[.int .i64 r1, .int .i64 r2, .bool r3]) ∧ Below w.heap.size w w' := by
  have HR0 := Aside0.mk hr0
  have HC0 := Aside0.mk hc0
  clear hr0 hc0
  have HRG := Aside0.mk hrG
  clear hrG
  have HB := Aside0.mk (Below.refl w.heap.size w)
  have H : (if 0 ≤ (l0.length : Int) then (if ((l0.length : Int) : Int).toNat ≤ 17592186044416 then (sha_Clash.l0 k l0 (List.replicate ((l0.length : Int) : Int).toNat (⟨#[]⟩ : ByteArray)) l0 (l0.length : Int) 0) else (none)) else (none)) = some (r1, r2, r3) := h
  clear h
  by_cases c2 : 0 ≤ (l0.length : Int)
  · rw [if_pos c2] at H
    have c2b0 := eq_true c2
    have c2b1 : decide (0 ≤ (l0.length : Int)) = true := decide_eq_true c2
    clear c2
    by_cases c3 : ((l0.length : Int) : Int).toNat ≤ 17592186044416
    · rw [if_pos c3] at H
      have c3b0 := eq_true c3
      have c3b1 : decide (((l0.length : Int) : Int).toNat ≤ 17592186044416) = true := decide_eq_true c3
      clear c3
      obtain ⟨y318, hy318⟩ : ∃ y_ : List ByteArray, y_ = (List.replicate ((l0.length : Int) : Int).toNat (⟨#[]⟩ : ByteArray)) := ⟨_, rfl⟩
      replace H : (sha_Clash.l0 k l0 y318 l0 (l0.length : Int) 0) = some (r1, r2, r3) := by first | (rw [hy318]; with_reducible exact H) | (have H2_ := (Option.bind_some _ _).symm.trans H; rw [hy318]; with_reducible exact H2_) | (have H2_ := (Option.bind_some _ _).symm.trans H; with_reducible exact H2_) | with_reducible exact H | (rw [hy318]; exact H) | exact H
      have Ny318 := Aside0.mk hy318
      clear hy318
      have H' := Aside0.mk H
      clear H
      go_enter Tryd.func20, Tryd.ntmps20
      go_wp2_with (first | ((with_reducible refine gate_dst (N := 12) rfl ?_); refine Kd.R_make Kd.string _ 9 rfl (N := 12) rfl 25 _ _ rfl (l0.length : Int) rfl rfl Tryd.underlying25 (.string ⟨#[]⟩) 16 info9 rfl (by decide) (by omega) (⟨#[]⟩ : ByteArray) (ok := fun _ => True) (okp := fun _ => True) rfl (fun _ hk => hk) trivial (of_decide_eq_true (by first | (with_reducible assumption) | assumption)) (Nat.le_trans (Nat.mul_le_mul_right _ (of_decide_eq_true (by first | (with_reducible assumption) | assumption) : (l0.length : Int).toNat ≤ 17592186044416)) (by omega)) (Below.refl _ _) (Nat.le_refl _) ?_; intro v319 w4 ho5 hb hg_ hnew_; clear hg_ hnew_; (first | rw [← Ny318.out] at ho5 | (simp only [Int.reduceToNat] at ho5; rw [← Ny318.out] at ho5)); have n0_ := Aside0.mk (Kd.R_lower ho5 (below_size (by repeat (first | (with_reducible first | exact HB.out | apply below_alloc | apply pw_below_drewN | apply below_drew1) | exact HB.out)))); have n1_ := Aside0.mk (below_step (by repeat (first | (with_reducible first | exact HB.out | apply below_alloc | apply pw_below_drewN | apply below_drew1) | exact HB.out)) hb); clear HB; have HO320 := n0_; have HB := n1_; clear n0_ n1_; clear hb ho5))
      repeat (go_quiet (first | ((with_reducible refine gate_dst (N := 12) rfl ?_); refine Kd.R_make Kd.string _ 9 rfl (N := 12) rfl 25 _ _ rfl (l0.length : Int) rfl rfl Tryd.underlying25 (.string ⟨#[]⟩) 16 info9 rfl (by decide) (by omega) (⟨#[]⟩ : ByteArray) (ok := fun _ => True) (okp := fun _ => True) rfl (fun _ hk => hk) trivial (of_decide_eq_true (by first | (with_reducible assumption) | assumption)) (Nat.le_trans (Nat.mul_le_mul_right _ (of_decide_eq_true (by first | (with_reducible assumption) | assumption) : (l0.length : Int).toNat ≤ 17592186044416)) (by omega)) (Below.refl _ _) (Nat.le_refl _) ?_; intro v319 w4 ho5 hb hg_ hnew_; clear hg_ hnew_; (first | rw [← Ny318.out] at ho5 | (simp only [Int.reduceToNat] at ho5; rw [← Ny318.out] at ho5)); have n0_ := Aside0.mk (Kd.R_lower ho5 (below_size (by repeat (first | (with_reducible first | exact HB.out | apply below_alloc | apply pw_below_drewN | apply below_drew1) | exact HB.out)))); have n1_ := Aside0.mk (below_step (by repeat (first | (with_reducible first | exact HB.out | apply below_alloc | apply pw_below_drewN | apply below_drew1) | exact HB.out)) hb); clear HB; have HO320 := n0_; have HB := n1_; clear n0_ n1_; clear hb ho5)); try go_wp2_with (first | ((with_reducible refine gate_dst (N := 12) rfl ?_); refine Kd.R_make Kd.string _ 9 rfl (N := 12) rfl 25 _ _ rfl (l0.length : Int) rfl rfl Tryd.underlying25 (.string ⟨#[]⟩) 16 info9 rfl (by decide) (by omega) (⟨#[]⟩ : ByteArray) (ok := fun _ => True) (okp := fun _ => True) rfl (fun _ hk => hk) trivial (of_decide_eq_true (by first | (with_reducible assumption) | assumption)) (Nat.le_trans (Nat.mul_le_mul_right _ (of_decide_eq_true (by first | (with_reducible assumption) | assumption) : (l0.length : Int).toNat ≤ 17592186044416)) (by omega)) (Below.refl _ _) (Nat.le_refl _) ?_; intro v319 w4 ho5 hb hg_ hnew_; clear hg_ hnew_; (first | rw [← Ny318.out] at ho5 | (simp only [Int.reduceToNat] at ho5; rw [← Ny318.out] at ho5)); have n0_ := Aside0.mk (Kd.R_lower ho5 (below_size (by repeat (first | (with_reducible first | exact HB.out | apply below_alloc | apply pw_below_drewN | apply below_drew1) | exact HB.out)))); have n1_ := Aside0.mk (below_step (by repeat (first | (with_reducible first | exact HB.out | apply below_alloc | apply pw_below_drewN | apply below_drew1) | exact HB.out)) hb); clear HB; have HO320 := n0_; have HB := n1_; clear n0_ n1_; clear hb ho5)))
      go_loopg [15] k (fun kq v15 w' => ∃ (x5_1 : List ByteArray) (x15_1 : Int), v15 = .int .i64 x15_1 ∧ Aside0 (sha_Clash.l0 kq l0 x5_1 l0 (l0.length : Int) x15_1 = some (r1, r2, r3)) ∧ Aside0 (kq ≤ k) ∧ Aside0 (Kd.R Kd.string 9 w' w.heap.size (fun _ => True) v319 x5_1) ∧ Aside0 (Below w.heap.size w w'))
      case atStart => exact ⟨(y318), (0), (by first | rfl | (simp; done) | (simp [*]; done) | exact congrArg Value.bool (nonempty_l _) | (refine congrArg (Value.int _) ?_; first | omega | (unfold Go.RowKit.wrap64; omega))), H', ⟨Nat.le_refl _⟩, ⟨by (with_reducible repeat (first | apply Kd.R_alloc | apply Kd.R_drewN | apply Kd.R_drew)); exact HO320.out⟩, ⟨by repeat (first | (with_reducible first | exact HB.out | apply below_alloc | apply pw_below_drewN | apply below_drew1) | exact HB.out)⟩⟩
      case round =>
        clear H'
        (try clear c2); (try clear c2b0); (try clear c2b1); (try clear p2); (try clear c3); (try clear c3b0); (try clear c3b1)
        obtain ⟨x5_1, x15_1, rfl, HA, HK1, HO_5, HB⟩ := hrel
        cases gk with
        | zero => exact absurd HA.out (by simp [sha_Clash.l0])
        | succ k1 =>
          have H := HA.out
          clear HA
          simp only [sha_Clash.l0] at H
          by_cases c6 : x15_1 < (l0.length : Int)
          · rw [if_pos c6] at H
            have c6b0 : decide (x15_1 < (l0.length : Int)) = true := decide_eq_true c6
            clear c6
            by_cases c7 : 0 ≤ x15_1
            · rw [if_pos c7] at H
              have c7b0 : decide (0 ≤ x15_1) = true := decide_eq_true c7
              clear c7
              by_cases c8 : x15_1 < (l0.length : Int)
              · rw [if_pos c8] at H
                have c8b0 : decide (x15_1 < (l0.length : Int)) = true := decide_eq_true c8
                clear c8
                replace H := Option.bind_eq_some_iff.mp H
                obtain ⟨t322, A90, H⟩ := H
                replace H : (if x15_1 < (x5_1.length : Int) then (sha_Clash.l0 k1 l0 (x5_1.set (x15_1 : Int).toNat t322) l0 (l0.length : Int) (wrap64 (x15_1 + 1))) else (none)) = some (r1, r2, r3) := H
                have A9 := Aside0.mk A90
                clear A90
                by_cases c10 : x15_1 < (x5_1.length : Int)
                · rw [if_pos c10] at H
                  have c10b0 : decide (x15_1 < (x5_1.length : Int)) = true := decide_eq_true c10
                  clear c10
                  obtain ⟨y323, hy323⟩ : ∃ y_ : List ByteArray, y_ = (x5_1.set (x15_1 : Int).toNat t322) := ⟨_, rfl⟩
                  replace H : (sha_Clash.l0 k1 l0 y323 l0 (l0.length : Int) (wrap64 (x15_1 + 1))) = some (r1, r2, r3) := by first | (rw [hy323]; with_reducible exact H) | (have H2_ := (Option.bind_some _ _).symm.trans H; rw [hy323]; with_reducible exact H2_) | (have H2_ := (Option.bind_some _ _).symm.trans H; with_reducible exact H2_) | with_reducible exact H | (rw [hy323]; exact H) | exact H
                  have Ny323 := Aside0.mk hy323
                  clear hy323
                  have H' := Aside0.mk H
                  clear H
                  have p321 : 0 ≤ (x15_1 : Int) := of_decide_eq_true (by first | (with_reducible assumption) | assumption)
                  have q321 : x15_1 < (l0.length : Int) := of_decide_eq_true (by first | (with_reducible assumption) | assumption)
                  obtain ⟨ad321, e321, hx321_0⟩ := Kd.at_string HR0.out x15_1 p321 q321
                  cases e321
                  replace hx321_0 := (HB.out.cell (World.block_lt_of_cell? w _ hx321_0)).trans hx321_0
                  replace p321 := eq_true p321
                  replace q321 := eq_true q321
                  go_wp2_with (first | (go_at_call 9; (with_reducible refine (sha_Sum.calls k1 (rdOf ByteArray.empty l0 x15_1) t322 _ ?side1 A9.out).mono ?_); (case side1 => repeat (first | exact (Kd.C_below HRG.out HB.out) | (with_reducible refine Kd.C_alloc ?_ _) | (with_reducible refine Kd.C_drewN ?_ _) | (with_reducible refine Kd.C_drew ?_))); rintro e w12 ⟨rfl, hb⟩; have n0_ := Aside0.mk (Kd.R_below (by (with_reducible repeat (first | apply Kd.R_alloc | apply Kd.R_drewN | apply Kd.R_drew)); exact HO_5.out) hb); have n1_ := Aside0.mk (below_step (by repeat (first | (with_reducible first | exact HB.out | apply below_alloc | apply pw_below_drewN | apply below_drew1) | exact HB.out)) hb); clear HO_5; clear HB; have HO_5 := n0_; have HB := n1_; clear n0_ n1_; (try clear hb); (try clear hb2); (try clear hk); (try clear hi); have p11 : 0 ≤ (x15_1 : Int) := of_decide_eq_true (by first | (with_reducible assumption) | assumption); have q11 : (x15_1 : Int) < ((x5_1.length : Int) : Int) := of_decide_eq_true (by first | (with_reducible assumption) | assumption); obtain ⟨go11, co11, eo11, gb11, gl11, cl11, HG11⟩ := Kd.R_form HO_5.out (by omega); (first | cases eo11 | (injection eo11 with ea_ en_ ec_; (first | subst ea_ | (injection ea_ with ea_; subst ea_)); subst ec_; clear en_)); have GB11 := Aside0.mk gb11; have GG11 := Aside0.mk HG11; clear gb11 gl11 HG11; obtain ⟨hx11_0, hf11_0⟩ := Kd.R_celln (⟨#[]⟩ : ByteArray) HO_5.out (x15_1 : Int) p11 q11; replace p11 := eq_true p11; replace q11 := eq_true q11; obtain ⟨hy13_, hz13_⟩ := Kd.R_celln (⟨#[]⟩ : ByteArray) HO_5.out (x15_1 : Int) (of_decide_eq_true (by first | (with_reducible assumption) | assumption)) (of_decide_eq_true (by first | (with_reducible assumption) | assumption)); have HP13 := Kd.R_putg HO_5.out (x15_1 : Int) t322) | ((with_reducible refine gate_store (t := 9) (p := 24) rfl ?_); (try (rw [drewN_self w12]; generalize hq_ : World.drewN w12 _ = w12; have n0_ := Aside0.mk (Kd.R_at hq_ HO_5.out); have n1_ := Aside0.mk (below_at hq_ HB.out); clear hq_ HO_5 HB; have HO_5 := n0_; have HB := n1_; clear n0_ n1_; (try (try (obtain ⟨hx11_0, hf11_0⟩ := Kd.R_celln (⟨#[]⟩ : ByteArray) HO_5.out (x15_1 : Int) (by first | exact p11 | exact of_eq_true p11) (by first | exact q11 | exact of_eq_true q11)))); (try (obtain ⟨hy13_, hz13_⟩ := Kd.R_celln (⟨#[]⟩ : ByteArray) HO_5.out (x15_1 : Int) (of_decide_eq_true (by first | (with_reducible assumption) | assumption)) (of_decide_eq_true (by first | (with_reducible assumption) | assumption)))); (try (have HP13 := Kd.R_putg HO_5.out (x15_1 : Int) t322)))); refine store_event (t := 9) (p := 24) (v := ?vo_w14) (w1 := (w12.setCell ⟨go11, (x15_1 : Int).toNat, none⟩ (.string t322))) ?hg ?ho ?hn ?hr ?_; (case ho => rfl); (case hg => rfl); (case hn => rfl); (case hr => first | (go_simp; done) | (go_simp; rfl)); intro w14 hw; have hg : w12.grownBy w14 (some go11) := (by rw [hw]; exact HP13.2); have hp_ : Kd.R Kd.string 9 w14 w.heap.size (fun _ => True) (.slice (some ⟨go11, 0, none⟩) x5_1.length co11) y323 := (by rw [hw, Ny323.out]; exact HP13.1); clear HP13; have n0_ := Aside0.mk (hp_); have n1_ := Aside0.mk ((by rw [hw]; exact below_set (HB.out) GB11.out : Below w.heap.size w w14)); clear HO_5; clear HB; have HO_5 := n0_; have HB := n1_; clear n0_ n1_; clear hg hw hp_))
                  repeat (go_quiet (first | (go_at_call 9; (with_reducible refine (sha_Sum.calls k1 (rdOf ByteArray.empty l0 x15_1) t322 _ ?side1 A9.out).mono ?_); (case side1 => repeat (first | exact (Kd.C_below HRG.out HB.out) | (with_reducible refine Kd.C_alloc ?_ _) | (with_reducible refine Kd.C_drewN ?_ _) | (with_reducible refine Kd.C_drew ?_))); rintro e w12 ⟨rfl, hb⟩; have n0_ := Aside0.mk (Kd.R_below (by (with_reducible repeat (first | apply Kd.R_alloc | apply Kd.R_drewN | apply Kd.R_drew)); exact HO_5.out) hb); have n1_ := Aside0.mk (below_step (by repeat (first | (with_reducible first | exact HB.out | apply below_alloc | apply pw_below_drewN | apply below_drew1) | exact HB.out)) hb); clear HO_5; clear HB; have HO_5 := n0_; have HB := n1_; clear n0_ n1_; (try clear hb); (try clear hb2); (try clear hk); (try clear hi); have p11 : 0 ≤ (x15_1 : Int) := of_decide_eq_true (by first | (with_reducible assumption) | assumption); have q11 : (x15_1 : Int) < ((x5_1.length : Int) : Int) := of_decide_eq_true (by first | (with_reducible assumption) | assumption); obtain ⟨go11, co11, eo11, gb11, gl11, cl11, HG11⟩ := Kd.R_form HO_5.out (by omega); (first | cases eo11 | (injection eo11 with ea_ en_ ec_; (first | subst ea_ | (injection ea_ with ea_; subst ea_)); subst ec_; clear en_)); have GB11 := Aside0.mk gb11; have GG11 := Aside0.mk HG11; clear gb11 gl11 HG11; obtain ⟨hx11_0, hf11_0⟩ := Kd.R_celln (⟨#[]⟩ : ByteArray) HO_5.out (x15_1 : Int) p11 q11; replace p11 := eq_true p11; replace q11 := eq_true q11; obtain ⟨hy13_, hz13_⟩ := Kd.R_celln (⟨#[]⟩ : ByteArray) HO_5.out (x15_1 : Int) (of_decide_eq_true (by first | (with_reducible assumption) | assumption)) (of_decide_eq_true (by first | (with_reducible assumption) | assumption)); have HP13 := Kd.R_putg HO_5.out (x15_1 : Int) t322) | ((with_reducible refine gate_store (t := 9) (p := 24) rfl ?_); (try (rw [drewN_self w12]; generalize hq_ : World.drewN w12 _ = w12; have n0_ := Aside0.mk (Kd.R_at hq_ HO_5.out); have n1_ := Aside0.mk (below_at hq_ HB.out); clear hq_ HO_5 HB; have HO_5 := n0_; have HB := n1_; clear n0_ n1_; (try (try (obtain ⟨hx11_0, hf11_0⟩ := Kd.R_celln (⟨#[]⟩ : ByteArray) HO_5.out (x15_1 : Int) (by first | exact p11 | exact of_eq_true p11) (by first | exact q11 | exact of_eq_true q11)))); (try (obtain ⟨hy13_, hz13_⟩ := Kd.R_celln (⟨#[]⟩ : ByteArray) HO_5.out (x15_1 : Int) (of_decide_eq_true (by first | (with_reducible assumption) | assumption)) (of_decide_eq_true (by first | (with_reducible assumption) | assumption)))); (try (have HP13 := Kd.R_putg HO_5.out (x15_1 : Int) t322)))); refine store_event (t := 9) (p := 24) (v := ?vo_w14) (w1 := (w12.setCell ⟨go11, (x15_1 : Int).toNat, none⟩ (.string t322))) ?hg ?ho ?hn ?hr ?_; (case ho => rfl); (case hg => rfl); (case hn => rfl); (case hr => first | (go_simp; done) | (go_simp; rfl)); intro w14 hw; have hg : w12.grownBy w14 (some go11) := (by rw [hw]; exact HP13.2); have hp_ : Kd.R Kd.string 9 w14 w.heap.size (fun _ => True) (.slice (some ⟨go11, 0, none⟩) x5_1.length co11) y323 := (by rw [hw, Ny323.out]; exact HP13.1); clear HP13; have n0_ := Aside0.mk (hp_); have n1_ := Aside0.mk ((by rw [hw]; exact below_set (HB.out) GB11.out : Below w.heap.size w w14)); clear HO_5; clear HB; have HO_5 := n0_; have HB := n1_; clear n0_ n1_; clear hg hw hp_)); try go_wp2_with (first | (go_at_call 9; (with_reducible refine (sha_Sum.calls k1 (rdOf ByteArray.empty l0 x15_1) t322 _ ?side1 A9.out).mono ?_); (case side1 => repeat (first | exact (Kd.C_below HRG.out HB.out) | (with_reducible refine Kd.C_alloc ?_ _) | (with_reducible refine Kd.C_drewN ?_ _) | (with_reducible refine Kd.C_drew ?_))); rintro e w12 ⟨rfl, hb⟩; have n0_ := Aside0.mk (Kd.R_below (by (with_reducible repeat (first | apply Kd.R_alloc | apply Kd.R_drewN | apply Kd.R_drew)); exact HO_5.out) hb); have n1_ := Aside0.mk (below_step (by repeat (first | (with_reducible first | exact HB.out | apply below_alloc | apply pw_below_drewN | apply below_drew1) | exact HB.out)) hb); clear HO_5; clear HB; have HO_5 := n0_; have HB := n1_; clear n0_ n1_; (try clear hb); (try clear hb2); (try clear hk); (try clear hi); have p11 : 0 ≤ (x15_1 : Int) := of_decide_eq_true (by first | (with_reducible assumption) | assumption); have q11 : (x15_1 : Int) < ((x5_1.length : Int) : Int) := of_decide_eq_true (by first | (with_reducible assumption) | assumption); obtain ⟨go11, co11, eo11, gb11, gl11, cl11, HG11⟩ := Kd.R_form HO_5.out (by omega); (first | cases eo11 | (injection eo11 with ea_ en_ ec_; (first | subst ea_ | (injection ea_ with ea_; subst ea_)); subst ec_; clear en_)); have GB11 := Aside0.mk gb11; have GG11 := Aside0.mk HG11; clear gb11 gl11 HG11; obtain ⟨hx11_0, hf11_0⟩ := Kd.R_celln (⟨#[]⟩ : ByteArray) HO_5.out (x15_1 : Int) p11 q11; replace p11 := eq_true p11; replace q11 := eq_true q11; obtain ⟨hy13_, hz13_⟩ := Kd.R_celln (⟨#[]⟩ : ByteArray) HO_5.out (x15_1 : Int) (of_decide_eq_true (by first | (with_reducible assumption) | assumption)) (of_decide_eq_true (by first | (with_reducible assumption) | assumption)); have HP13 := Kd.R_putg HO_5.out (x15_1 : Int) t322) | ((with_reducible refine gate_store (t := 9) (p := 24) rfl ?_); (try (rw [drewN_self w12]; generalize hq_ : World.drewN w12 _ = w12; have n0_ := Aside0.mk (Kd.R_at hq_ HO_5.out); have n1_ := Aside0.mk (below_at hq_ HB.out); clear hq_ HO_5 HB; have HO_5 := n0_; have HB := n1_; clear n0_ n1_; (try (try (obtain ⟨hx11_0, hf11_0⟩ := Kd.R_celln (⟨#[]⟩ : ByteArray) HO_5.out (x15_1 : Int) (by first | exact p11 | exact of_eq_true p11) (by first | exact q11 | exact of_eq_true q11)))); (try (obtain ⟨hy13_, hz13_⟩ := Kd.R_celln (⟨#[]⟩ : ByteArray) HO_5.out (x15_1 : Int) (of_decide_eq_true (by first | (with_reducible assumption) | assumption)) (of_decide_eq_true (by first | (with_reducible assumption) | assumption)))); (try (have HP13 := Kd.R_putg HO_5.out (x15_1 : Int) t322)))); refine store_event (t := 9) (p := 24) (v := ?vo_w14) (w1 := (w12.setCell ⟨go11, (x15_1 : Int).toNat, none⟩ (.string t322))) ?hg ?ho ?hn ?hr ?_; (case ho => rfl); (case hg => rfl); (case hn => rfl); (case hr => first | (go_simp; done) | (go_simp; rfl)); intro w14 hw; have hg : w12.grownBy w14 (some go11) := (by rw [hw]; exact HP13.2); have hp_ : Kd.R Kd.string 9 w14 w.heap.size (fun _ => True) (.slice (some ⟨go11, 0, none⟩) x5_1.length co11) y323 := (by rw [hw, Ny323.out]; exact HP13.1); clear HP13; have n0_ := Aside0.mk (hp_); have n1_ := Aside0.mk ((by rw [hw]; exact below_set (HB.out) GB11.out : Below w.heap.size w w14)); clear HO_5; clear HB; have HO_5 := n0_; have HB := n1_; clear n0_ n1_; clear hg hw hp_)))
                  go_roundg k1
                  case measure => have := HK1.out; omega
                  case rel => exact ⟨(y323), (wrap64 (x15_1 + 1)), (by first | rfl | (simp; done) | (simp [*]; done) | exact congrArg Value.bool (nonempty_l _) | (refine congrArg (Value.int _) ?_; first | omega | (unfold Go.RowKit.wrap64; omega))), H', ⟨by have := HK1.out; omega⟩, ⟨by (with_reducible repeat (first | apply Kd.R_alloc | apply Kd.R_drewN | apply Kd.R_drew)); exact HO_5.out⟩, ⟨by repeat (first | (with_reducible first | exact HB.out | apply below_alloc | apply pw_below_drewN | apply below_drew1) | exact HB.out)⟩⟩
                · rw [if_neg c10] at H
                  exact absurd H (by simp)
              · rw [if_neg c8] at H
                exact absurd H (by simp)
            · rw [if_neg c7] at H
              exact absurd H (by simp)
          · rw [if_neg c6] at H
            have c6b0 : decide (x15_1 < (l0.length : Int)) = false := decide_eq_false c6
            clear c6
            have H' := Aside0.mk H
            clear H
            go_wp2
            repeat (go_quiet (fail); try go_wp2)
            go_loopg [28] k1 (fun kq v28 w' => ∃ (x28_2 : Int), v28 = .int .i64 x28_2 ∧ Aside0 (sha_Clash.l1 kq l0 x5_1 (l0.length : Int) x28_2 = some (r1, r2, r3)) ∧ Aside0 (kq ≤ k1) ∧ Aside0 (Kd.R Kd.string 9 w' w.heap.size (fun _ => True) v319 x5_1) ∧ Aside0 (Below w.heap.size w w'))
            case atStart => exact ⟨(0), (by first | rfl | (simp; done) | (simp [*]; done) | exact congrArg Value.bool (nonempty_l _) | (refine congrArg (Value.int _) ?_; first | omega | (unfold Go.RowKit.wrap64; omega))), H', ⟨Nat.le_refl _⟩, ⟨by (with_reducible repeat (first | apply Kd.R_alloc | apply Kd.R_drewN | apply Kd.R_drew)); exact HO_5.out⟩, ⟨by repeat (first | (with_reducible first | exact HB.out | apply below_alloc | apply pw_below_drewN | apply below_drew1) | exact HB.out)⟩⟩
            case round =>
              clear H'
              (try clear c1); (try clear p1); (try clear q1); (try clear hx1); (try clear hf1); (try clear c2); (try clear c2b0); (try clear c2b1); (try clear p2); (try clear c3); (try clear c3b0); (try clear c3b1); (try clear p3); (try clear q3); (try clear hx3); (try clear c6); (try clear c6b0); (try clear p6); (try clear c7); (try clear c7b0); (try clear c8); (try clear c8b0); (try clear c10); (try clear c10b0); (try clear p11); (try clear q11); (try clear hx11); (try clear hf11); (try clear hx11_0); (try clear hx321_0); (try clear p11); (try clear p2); (try clear p321); (try clear q11); (try clear q321)
              obtain ⟨x28_2, rfl, HA, HK2, HO_5, HB⟩ := hrel
              cases gk with
              | zero => exact absurd HA.out (by simp [sha_Clash.l1])
              | succ k2 =>
                have H := HA.out
                clear HA
                simp only [sha_Clash.l1] at H
                by_cases c15 : x28_2 < (l0.length : Int)
                · rw [if_pos c15] at H
                  have c15b0 : decide (x28_2 < (l0.length : Int)) = true := decide_eq_true c15
                  clear c15
                  have H' := Aside0.mk H
                  clear H
                  go_wp2
                  repeat (go_quiet (fail); try go_wp2)
                  go_loopg [9] k2 (fun kq v9 w' => ∃ (x9_3 : Int), v9 = .int .i64 x9_3 ∧ Aside0 (sha_Clash.l2 kq l0 x5_1 x28_2 x9_3 (l0.length : Int) x28_2 = some (r1, r2, r3)) ∧ Aside0 (kq ≤ k2) ∧ Aside0 (Kd.R Kd.string 9 w' w.heap.size (fun _ => True) v319 x5_1) ∧ Aside0 (Below w.heap.size w w'))
                  case atStart => exact ⟨(wrap64 (x28_2 + 1)), (by first | rfl | (simp; done) | (simp [*]; done) | exact congrArg Value.bool (nonempty_l _) | (refine congrArg (Value.int _) ?_; first | omega | (unfold Go.RowKit.wrap64; omega))), H', ⟨Nat.le_refl _⟩, ⟨by (with_reducible repeat (first | apply Kd.R_alloc | apply Kd.R_drewN | apply Kd.R_drew)); exact HO_5.out⟩, ⟨by repeat (first | (with_reducible first | exact HB.out | apply below_alloc | apply pw_below_drewN | apply below_drew1) | exact HB.out)⟩⟩
                  case round =>
                    clear H'
                    (try clear c1); (try clear p1); (try clear q1); (try clear hx1); (try clear hf1); (try clear c2); (try clear c2b0); (try clear c2b1); (try clear p2); (try clear c3); (try clear c3b0); (try clear c3b1); (try clear p3); (try clear q3); (try clear hx3); (try clear c6); (try clear c6b0); (try clear p6); (try clear c7); (try clear c7b0); (try clear c8); (try clear c8b0); (try clear c10); (try clear c10b0); (try clear p11); (try clear q11); (try clear hx11); (try clear hf11); (try clear c15); (try clear c15b0); (try clear hx11_0); (try clear hx321_0); (try clear p1); (try clear p11); (try clear p2); (try clear p3); (try clear p321); (try clear p6); (try clear q1); (try clear q11); (try clear q3); (try clear q321)
                    obtain ⟨x9_3, rfl, HA, HK3, HO_5, HB⟩ := hrel
                    cases gk with
                    | zero => exact absurd HA.out (by simp [sha_Clash.l2])
                    | succ k3 =>
                      have H := HA.out
                      clear HA
                      simp only [sha_Clash.l2] at H
                      by_cases c16 : x9_3 < (l0.length : Int)
                      · rw [if_pos c16] at H
                        have c16b0 : decide (x9_3 < (l0.length : Int)) = true := decide_eq_true c16
                        clear c16
                        by_cases c17 : 0 ≤ x28_2
                        · rw [if_pos c17] at H
                          have c17b0 : decide (0 ≤ x28_2) = true := decide_eq_true c17
                          clear c17
                          by_cases c18 : x28_2 < (x5_1.length : Int)
                          · rw [if_pos c18] at H
                            have c18b0 : decide (x28_2 < (x5_1.length : Int)) = true := decide_eq_true c18
                            clear c18
                            by_cases c19 : 0 ≤ x9_3
                            · rw [if_pos c19] at H
                              have c19b0 : decide (0 ≤ x9_3) = true := decide_eq_true c19
                              clear c19
                              by_cases c20 : x9_3 < (x5_1.length : Int)
                              · rw [if_pos c20] at H
                                have c20b0 : decide (x9_3 < (x5_1.length : Int)) = true := decide_eq_true c20
                                clear c20
                                by_cases c21 : (rdOf ByteArray.empty x5_1 x28_2).toList = (rdOf ByteArray.empty x5_1 x9_3).toList
                                · rw [if_pos c21] at H
                                  have c21b0 : ((rdOf ByteArray.empty x5_1 x28_2).toList == (rdOf ByteArray.empty x5_1 x9_3).toList) = true := beq_iff_eq.mpr c21
                                  have c21b1 : ((rdOf ByteArray.empty x5_1 x28_2).toList != (rdOf ByteArray.empty x5_1 x9_3).toList) = false := bne_eq_false_iff_eq.mpr c21
                                  clear c21
                                  by_cases c22 : x28_2 < (l0.length : Int)
                                  · rw [if_pos c22] at H
                                    have c22b0 : decide (x28_2 < (l0.length : Int)) = true := decide_eq_true c22
                                    clear c22
                                    by_cases c23 : (rdOf ByteArray.empty l0 x28_2).toList = (rdOf ByteArray.empty l0 x9_3).toList
                                    · rw [if_pos c23] at H
                                      have c23b0 : ((rdOf ByteArray.empty l0 x28_2).toList == (rdOf ByteArray.empty l0 x9_3).toList) = true := beq_iff_eq.mpr c23
                                      have c23b1 : ((rdOf ByteArray.empty l0 x28_2).toList != (rdOf ByteArray.empty l0 x9_3).toList) = false := bne_eq_false_iff_eq.mpr c23
                                      clear c23
                                      have H' := Aside0.mk H
                                      clear H
                                      obtain ⟨Ao24, co24, eo24⟩ := Kd.R_slice HO_5.out
                                      subst eo24
                                      have p324 : 0 ≤ (x28_2 : Int) := of_decide_eq_true (by first | (with_reducible assumption) | assumption)
                                      have q324 : x28_2 < (x5_1.length : Int) := of_decide_eq_true (by first | (with_reducible assumption) | assumption)
                                      obtain ⟨ad324, e324, hx324_0⟩ := Kd.at_string (Kd.R_reads' HO_5.out).2.2 x28_2 p324 q324
                                      cases e324
                                      replace p324 := eq_true p324
                                      replace q324 := eq_true q324
                                      have p325 : 0 ≤ (x9_3 : Int) := of_decide_eq_true (by first | (with_reducible assumption) | assumption)
                                      have q325 : x9_3 < (x5_1.length : Int) := of_decide_eq_true (by first | (with_reducible assumption) | assumption)
                                      obtain ⟨ad325, e325, hx325_0⟩ := Kd.at_string (Kd.R_reads' HO_5.out).2.2 x9_3 p325 q325
                                      obtain rfl : ad324 = ad325 := (by injection e325)
                                      replace p325 := eq_true p325
                                      replace q325 := eq_true q325
                                      have p326 : 0 ≤ (x28_2 : Int) := of_decide_eq_true (by first | (with_reducible assumption) | assumption)
                                      have q326 : x28_2 < (l0.length : Int) := of_decide_eq_true (by first | (with_reducible assumption) | assumption)
                                      obtain ⟨ad326, e326, hx326_0⟩ := Kd.at_string HR0.out x28_2 p326 q326
                                      cases e326
                                      replace hx326_0 := (HB.out.cell (World.block_lt_of_cell? w _ hx326_0)).trans hx326_0
                                      replace p326 := eq_true p326
                                      replace q326 := eq_true q326
                                      have p327 : 0 ≤ (x9_3 : Int) := of_decide_eq_true (by first | (with_reducible assumption) | assumption)
                                      have q327 : x9_3 < (l0.length : Int) := of_decide_eq_true (by first | (with_reducible assumption) | assumption)
                                      obtain ⟨ad327, e327, hx327_0⟩ := Kd.at_string HR0.out x9_3 p327 q327
                                      obtain rfl : ad326 = ad327 := (by injection e327)
                                      replace hx327_0 := (HB.out.cell (World.block_lt_of_cell? w _ hx327_0)).trans hx327_0
                                      replace p327 := eq_true p327
                                      replace q327 := eq_true q327
                                      go_wp2
                                      repeat (go_quiet (fail); try go_wp2)
                                      go_roundg k3
                                      case measure => have := HK1.out; have := HK2.out; have := HK3.out; omega
                                      case rel => exact ⟨(wrap64 (x9_3 + 1)), (by first | rfl | (simp; done) | (simp [*]; done) | exact congrArg Value.bool (nonempty_l _) | (refine congrArg (Value.int _) ?_; first | omega | (unfold Go.RowKit.wrap64; omega))), H', ⟨by have := HK1.out; have := HK2.out; have := HK3.out; omega⟩, ⟨by (with_reducible repeat (first | apply Kd.R_alloc | apply Kd.R_drewN | apply Kd.R_drew)); exact HO_5.out⟩, ⟨by repeat (first | (with_reducible first | exact HB.out | apply below_alloc | apply pw_below_drewN | apply below_drew1) | exact HB.out)⟩⟩
                                    · rw [if_neg c23] at H
                                      have c23b0 : ((rdOf ByteArray.empty l0 x28_2).toList == (rdOf ByteArray.empty l0 x9_3).toList) = false := beq_eq_false_iff_ne.mpr c23
                                      have c23b1 : ((rdOf ByteArray.empty l0 x28_2).toList != (rdOf ByteArray.empty l0 x9_3).toList) = true := bne_iff_ne.mpr c23
                                      simp only [Option.some.injEq, Prod.mk.injEq] at H
                                      obtain ⟨rfl, rfl, rfl⟩ := H
                                      obtain ⟨Ao25, co25, eo25⟩ := Kd.R_slice HO_5.out
                                      subst eo25
                                      have p324 : 0 ≤ (x28_2 : Int) := of_decide_eq_true (by first | (with_reducible assumption) | assumption)
                                      have q324 : x28_2 < (x5_1.length : Int) := of_decide_eq_true (by first | (with_reducible assumption) | assumption)
                                      obtain ⟨ad324, e324, hx324_0⟩ := Kd.at_string (Kd.R_reads' HO_5.out).2.2 x28_2 p324 q324
                                      cases e324
                                      replace p324 := eq_true p324
                                      replace q324 := eq_true q324
                                      have p325 : 0 ≤ (x9_3 : Int) := of_decide_eq_true (by first | (with_reducible assumption) | assumption)
                                      have q325 : x9_3 < (x5_1.length : Int) := of_decide_eq_true (by first | (with_reducible assumption) | assumption)
                                      obtain ⟨ad325, e325, hx325_0⟩ := Kd.at_string (Kd.R_reads' HO_5.out).2.2 x9_3 p325 q325
                                      obtain rfl : ad324 = ad325 := (by injection e325)
                                      replace p325 := eq_true p325
                                      replace q325 := eq_true q325
                                      have p326 : 0 ≤ (x28_2 : Int) := of_decide_eq_true (by first | (with_reducible assumption) | assumption)
                                      have q326 : x28_2 < (l0.length : Int) := of_decide_eq_true (by first | (with_reducible assumption) | assumption)
                                      obtain ⟨ad326, e326, hx326_0⟩ := Kd.at_string HR0.out x28_2 p326 q326
                                      cases e326
                                      replace hx326_0 := (HB.out.cell (World.block_lt_of_cell? w _ hx326_0)).trans hx326_0
                                      replace p326 := eq_true p326
                                      replace q326 := eq_true q326
                                      have p327 : 0 ≤ (x9_3 : Int) := of_decide_eq_true (by first | (with_reducible assumption) | assumption)
                                      have q327 : x9_3 < (l0.length : Int) := of_decide_eq_true (by first | (with_reducible assumption) | assumption)
                                      obtain ⟨ad327, e327, hx327_0⟩ := Kd.at_string HR0.out x9_3 p327 q327
                                      obtain rfl : ad326 = ad327 := (by injection e327)
                                      replace hx327_0 := (HB.out.cell (World.block_lt_of_cell? w _ hx327_0)).trans hx327_0
                                      replace p327 := eq_true p327
                                      replace q327 := eq_true q327
                                      go_wp2
                                      repeat (go_quiet (fail); try go_wp2)
                                      go_ret3
                                      exact ⟨by first | rfl | (simp [errW_none, errW_some] <;> rfl) | (simp [*, errW_none, errW_some] <;> rfl), by repeat (first | (with_reducible first | exact HB.out | apply below_alloc | apply pw_below_drewN | apply below_drew1) | exact HB.out)⟩
                                  · rw [if_neg c22] at H
                                    exact absurd H (by simp)
                                · rw [if_neg c21] at H
                                  have c21b0 : ((rdOf ByteArray.empty x5_1 x28_2).toList == (rdOf ByteArray.empty x5_1 x9_3).toList) = false := beq_eq_false_iff_ne.mpr c21
                                  have c21b1 : ((rdOf ByteArray.empty x5_1 x28_2).toList != (rdOf ByteArray.empty x5_1 x9_3).toList) = true := bne_iff_ne.mpr c21
                                  have H' := Aside0.mk H
                                  clear H
                                  obtain ⟨Ao26, co26, eo26⟩ := Kd.R_slice HO_5.out
                                  subst eo26
                                  have p324 : 0 ≤ (x28_2 : Int) := of_decide_eq_true (by first | (with_reducible assumption) | assumption)
                                  have q324 : x28_2 < (x5_1.length : Int) := of_decide_eq_true (by first | (with_reducible assumption) | assumption)
                                  obtain ⟨ad324, e324, hx324_0⟩ := Kd.at_string (Kd.R_reads' HO_5.out).2.2 x28_2 p324 q324
                                  cases e324
                                  replace p324 := eq_true p324
                                  replace q324 := eq_true q324
                                  have p325 : 0 ≤ (x9_3 : Int) := of_decide_eq_true (by first | (with_reducible assumption) | assumption)
                                  have q325 : x9_3 < (x5_1.length : Int) := of_decide_eq_true (by first | (with_reducible assumption) | assumption)
                                  obtain ⟨ad325, e325, hx325_0⟩ := Kd.at_string (Kd.R_reads' HO_5.out).2.2 x9_3 p325 q325
                                  obtain rfl : ad324 = ad325 := (by injection e325)
                                  replace p325 := eq_true p325
                                  replace q325 := eq_true q325
                                  go_wp2
                                  repeat (go_quiet (fail); try go_wp2)
                                  go_roundg k3
                                  case measure => have := HK1.out; have := HK2.out; have := HK3.out; omega
                                  case rel => exact ⟨(wrap64 (x9_3 + 1)), (by first | rfl | (simp; done) | (simp [*]; done) | exact congrArg Value.bool (nonempty_l _) | (refine congrArg (Value.int _) ?_; first | omega | (unfold Go.RowKit.wrap64; omega))), H', ⟨by have := HK1.out; have := HK2.out; have := HK3.out; omega⟩, ⟨by (with_reducible repeat (first | apply Kd.R_alloc | apply Kd.R_drewN | apply Kd.R_drew)); exact HO_5.out⟩, ⟨by repeat (first | (with_reducible first | exact HB.out | apply below_alloc | apply pw_below_drewN | apply below_drew1) | exact HB.out)⟩⟩
                              · rw [if_neg c20] at H
                                exact absurd H (by simp)
                            · rw [if_neg c19] at H
                              exact absurd H (by simp)
                          · rw [if_neg c18] at H
                            exact absurd H (by simp)
                        · rw [if_neg c17] at H
                          exact absurd H (by simp)
                      · rw [if_neg c16] at H
                        have c16b0 : decide (x9_3 < (l0.length : Int)) = false := decide_eq_false c16
                        clear c16
                        have H' := Aside0.mk H
                        clear H
                        go_wp2
                        repeat (go_quiet (fail); try go_wp2)
                        go_roundg k3
                        case measure => have := HK1.out; have := HK2.out; have := HK3.out; omega
                        case rel => exact ⟨(wrap64 (x28_2 + 1)), (by first | rfl | (simp; done) | (simp [*]; done) | exact congrArg Value.bool (nonempty_l _) | (refine congrArg (Value.int _) ?_; first | omega | (unfold Go.RowKit.wrap64; omega))), H', ⟨by have := HK1.out; have := HK2.out; have := HK3.out; omega⟩, ⟨by (with_reducible repeat (first | apply Kd.R_alloc | apply Kd.R_drewN | apply Kd.R_drew)); exact HO_5.out⟩, ⟨by repeat (first | (with_reducible first | exact HB.out | apply below_alloc | apply pw_below_drewN | apply below_drew1) | exact HB.out)⟩⟩
                · rw [if_neg c15] at H
                  have c15b0 : decide (x28_2 < (l0.length : Int)) = false := decide_eq_false c15
                  clear c15
                  simp only [Option.some.injEq, Prod.mk.injEq] at H
                  obtain ⟨rfl, rfl, rfl⟩ := H
                  go_wp2
                  repeat (go_quiet (fail); try go_wp2)
                  go_ret3
                  exact ⟨by first | rfl | (simp [errW_none, errW_some] <;> rfl) | (simp [*, errW_none, errW_some] <;> rfl), by repeat (first | (with_reducible first | exact HB.out | apply below_alloc | apply pw_below_drewN | apply below_drew1) | exact HB.out)⟩
    · rw [if_neg c3] at H
      exact absurd H (by simp)
  · rw [if_neg c2] at H
    exact absurd H (by simp)

end Go.Proofs.YtlnodlhlbaigkaaDoor.PP
