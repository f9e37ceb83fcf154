-- WRITTEN BY a program of this work (wip/ownprint.py), for this seat
import Derived.Test.YtkdbobccchkdjaaDoorPPx0
import Derived.Test.YtkdbobccchkdjaaDoorPPx5
namespace Go.Proofs.YtkdbobccchkdjaaDoor.PP
open Go.RowKit Go.Proofs.YtkdbobccchkdjaaDoorW.PrintWords Go.Proofs.YtkdbobccchkdjaaDoorW.PrintLast Go.Proofs.YtkdbobccchkdjaaDoorW.PrintMore
attribute [local go_sem] max2_int min2_int max_two min_two max_three min_three max_four min_four   -- for this text's walks alone
set_option linter.unusedVariables false
set_option linter.unusedSimpArgs false

/-! ### palaverlaw03_clash: function 28 -/
mutual
def palaverlaw03_clash.l0 : Nat → List ByteArray → List ByteArray → Int → Option (Bool)
 | 0, _, _, _ => none
 | k + 1, x0, x3, x4 => if x4 < (x0.length : Int) then (if 0 ≤ x4 then ((palaverref02_Sum.f k (rdOf ByteArray.empty x0 x4)).bind fun t445 => (if x4 < (x3.length : Int) then (palaverlaw03_clash.l0 k x0 (x3.set (x4 : Int).toNat t445) (wrap64 (x4 + 1))) else (none))) else (none)) else (palaverlaw03_clash.l1 k x0 x3 0)
def palaverlaw03_clash.l1 : Nat → List ByteArray → List ByteArray → Int → Option (Bool)
 | 0, _, _, _ => none
 | k + 1, x0, x3, x5 => if x5 < (x0.length : Int) then (palaverlaw03_clash.l2 k x0 x3 x5 0) else (some false)
def palaverlaw03_clash.l2 : Nat → List ByteArray → List ByteArray → Int → Int → Option (Bool)
 | 0, _, _, _, _ => none
 | k + 1, x0, x3, x5, x6 => if x6 < x5 then (if 0 ≤ x5 then (if x5 < (x3.length : Int) then (if 0 ≤ x6 then (if x6 < (x3.length : Int) then (if (rdOf ByteArray.empty x3 x5).toList = (rdOf ByteArray.empty x3 x6).toList then (if x5 < (x0.length : Int) then (if x6 < (x0.length : Int) then (if (rdOf ByteArray.empty x0 x5).toList = (rdOf ByteArray.empty x0 x6).toList then (palaverlaw03_clash.l2 k x0 x3 x5 (wrap64 (x6 + 1))) else (some true)) else (none)) else (none)) else (palaverlaw03_clash.l2 k x0 x3 x5 (wrap64 (x6 + 1)))) else (none)) else (none)) else (none)) else (none)) else (palaverlaw03_clash.l1 k x0 x3 (wrap64 (x5 + 1)))
end
def palaverlaw03_clash.f (k : Nat) (l0 : List ByteArray) : Option (Bool) := if 0 ≤ (l0.length : Int) then (if ((l0.length : Int) : Int).toNat ≤ 17592186044416 then (palaverlaw03_clash.l0 k l0 (List.replicate ((l0.length : Int) : Int).toNat (⟨#[]⟩ : ByteArray)) 0) else (none)) else (none)
theorem palaverlaw03_clash.mono_l : ∀ k, (∀ y0 y1 y2, LeO (palaverlaw03_clash.l0 k y0 y1 y2) (palaverlaw03_clash.l0 (k + 1) y0 y1 y2)) ∧ (∀ y0 y1 y2, LeO (palaverlaw03_clash.l1 k y0 y1 y2) (palaverlaw03_clash.l1 (k + 1) y0 y1 y2)) ∧ (∀ y0 y1 y2 y3, LeO (palaverlaw03_clash.l2 k y0 y1 y2 y3) (palaverlaw03_clash.l2 (k + 1) y0 y1 y2 y3))
 | 0 => ⟨fun _ _ _ r h => by simp [palaverlaw03_clash.l0] at h, fun _ _ _ r h => by simp [palaverlaw03_clash.l1] at h, fun _ _ _ _ r h => by simp [palaverlaw03_clash.l2] at h⟩
 | k + 1 => by
  obtain ⟨ih0, ih1, ih2⟩ := palaverlaw03_clash.mono_l k
  refine ⟨?_, ?_, ?_⟩
  ·intro y0 y1 y2
   unfold palaverlaw03_clash.l0
   repeat' first
   | (with_reducible exact ih0 _ _ _)
   | (with_reducible exact ih1 _ _ _)
   | (with_reducible exact ih2 _ _ _ _)
   | (with_reducible exact palaverref02_Sum.mono _ _)
   | (with_reducible exact LeO.refl _)
   | (with_reducible exact LeO.none _)
   | (with_reducible refine LeO.ite ?_ ?_)
   | (with_reducible refine LeO.bind ?_ (fun _ => ?_))
   | exact ih0 _ _ _
   | exact ih1 _ _ _
   | exact ih2 _ _ _ _
   | exact palaverref02_Sum.mono _ _
   | exact LeO.none _
   | refine LeO.ite ?_ ?_
   | refine LeO.bind ?_ (fun _ => ?_)
  ·intro y0 y1 y2
   unfold palaverlaw03_clash.l1
   repeat' first
   | (with_reducible exact ih0 _ _ _)
   | (with_reducible exact ih1 _ _ _)
   | (with_reducible exact ih2 _ _ _ _)
   | (with_reducible exact palaverref02_Sum.mono _ _)
   | (with_reducible exact LeO.refl _)
   | (with_reducible exact LeO.none _)
   | (with_reducible refine LeO.ite ?_ ?_)
   | (with_reducible refine LeO.bind ?_ (fun _ => ?_))
   | exact ih0 _ _ _
   | exact ih1 _ _ _
   | exact ih2 _ _ _ _
   | exact palaverref02_Sum.mono _ _
   | exact LeO.none _
   | refine LeO.ite ?_ ?_
   | refine LeO.bind ?_ (fun _ => ?_)
  ·intro y0 y1 y2 y3
   unfold palaverlaw03_clash.l2
   repeat' first
   | (with_reducible exact ih0 _ _ _)
   | (with_reducible exact ih1 _ _ _)
   | (with_reducible exact ih2 _ _ _ _)
   | (with_reducible exact palaverref02_Sum.mono _ _)
   | (with_reducible exact LeO.refl _)
   | (with_reducible exact LeO.none _)
   | (with_reducible refine LeO.ite ?_ ?_)
   | (with_reducible refine LeO.bind ?_ (fun _ => ?_))
   | exact ih0 _ _ _
   | exact ih1 _ _ _
   | exact ih2 _ _ _ _
   | exact palaverref02_Sum.mono _ _
   | exact LeO.none _
   | refine LeO.ite ?_ ?_
   | refine LeO.bind ?_ (fun _ => ?_)
theorem palaverlaw03_clash.mono : ∀ a0 k, LeO (palaverlaw03_clash.f k a0) (palaverlaw03_clash.f (k + 1) a0) := by
 intro a0 k
 obtain ⟨ih0, ih1, ih2⟩ := palaverlaw03_clash.mono_l k
 unfold palaverlaw03_clash.f
 repeat' first
  | (with_reducible exact ih0 _ _ _)
  | (with_reducible exact ih1 _ _ _)
  | (with_reducible exact ih2 _ _ _ _)
  | (with_reducible exact palaverref02_Sum.mono _ _)
  | (with_reducible exact LeO.refl _)
  | (with_reducible exact LeO.none _)
  | (with_reducible refine LeO.ite ?_ ?_)
  | (with_reducible refine LeO.bind ?_ (fun _ => ?_))
  | exact ih0 _ _ _
  | exact ih1 _ _ _
  | exact ih2 _ _ _ _
  | exact palaverref02_Sum.mono _ _
  | exact LeO.none _
  | refine LeO.ite ?_ ?_
  | refine LeO.bind ?_ (fun _ => ?_)
set_option maxHeartbeats 64000000 in
set_option maxRecDepth 100000 in
theorem palaverlaw03_clash.calls (k : Nat) (A0 : Option Addr) (c0 : Nat) (l0 : List ByteArray) (r : Bool) (w : World) (hr0 : Kd.C Kd.string w A0 l0.length l0) (hc0 : l0.length ≤ c0) (h : palaverlaw03_clash.f k l0 = some r) :
 Calls Tryd.prog 28 #[.slice A0 l0.length c0] w fun e w' => e = .returned (.bool r) ∧ Below w.heap.size w w' := by
 have HR0 := Aside0.mk hr0
 have HC0 := Aside0.mk hc0
 clear hr0 hc0
 have HB := Aside0.mk (Below.refl w.heap.size w)
 have H : (if 0 ≤ (l0.length : Int) then (if ((l0.length : Int) : Int).toNat ≤ 17592186044416 then (palaverlaw03_clash.l0 k l0 (List.replicate ((l0.length : Int) : Int).toNat (⟨#[]⟩ : ByteArray)) 0) else (none)) else (none)) = some r := h
 clear h
 by_cases c2 : 0 ≤ (l0.length : Int)
 rotate_left
 ·rw [if_neg c2] at H
  exact absurd H (by simp)
 rw [if_pos c2] at H
 have c2b0 := eq_true c2
 have c2b1 : decide (0 ≤ (l0.length : Int)) = true := decide_eq_true c2
 clear c2
 by_cases c3 : ((l0.length : Int) : Int).toNat ≤ 17592186044416
 rotate_left
 ·rw [if_neg c3] at H
  exact absurd H (by simp)
 rw [if_pos c3] at H
 have c3b0 := eq_true c3
 have c3b1 : decide (((l0.length : Int) : Int).toNat ≤ 17592186044416) = true := decide_eq_true c3
 clear c3
 obtain ⟨y441, hy441⟩ : ∃ y_ : List ByteArray, y_ = (List.replicate ((l0.length : Int) : Int).toNat (⟨#[]⟩ : ByteArray)) := ⟨_, rfl⟩
 replace H : (palaverlaw03_clash.l0 k l0 y441 0) = some r := by first | (rw [hy441]; with_reducible exact H) | (have H2_ := (Option.bind_some _ _).symm.trans H; rw [hy441]; with_reducible exact H2_) | (have H2_ := (Option.bind_some _ _).symm.trans H; with_reducible exact H2_) | with_reducible exact H | (rw [hy441]; exact H) | exact H
 have Ny441 := Aside0.mk hy441
 clear hy441
 have H' := Aside0.mk H
 clear H
 go_enter Tryd.func28, Tryd.ntmps28
 go_wp2_with (first | ((with_reducible refine gate_dst (N := 9) rfl ?_); refine Kd.R_make Kd.string _ 9 rfl (N := 9) rfl 36 _ _ rfl (l0.length : Int) rfl rfl Tryd.underlying36 (.string ⟨#[]⟩) 16 info9 rfl (by decide) (by omega) (⟨#[]⟩ : ByteArray) (ok := fun _ => True) (okp := fun _ => True) rfl (fun _ hk => hk) trivial (of_decide_eq_true (by first | (with_reducible assumption) | assumption)) (Nat.le_trans (Nat.mul_le_mul_right _ (of_decide_eq_true (by first | (with_reducible assumption) | assumption) : (l0.length : Int).toNat ≤ 17592186044416)) (by omega)) (Below.refl _ _) (Nat.le_refl _) ?_; intro v442 w4 ho5 hb hg_ hnew_; clear hg_ hnew_; (first | rw [← Ny441.out] at ho5 | (simp only [Int.reduceToNat] at ho5; rw [← Ny441.out] at ho5)); have n0_ := Aside0.mk (Kd.R_lower ho5 (below_size (by repeat (first | (with_reducible first | exact HB.out | apply below_alloc | apply pw_below_drewN | apply below_drew1) | exact HB.out)))); have n1_ := Aside0.mk (below_step (by repeat (first | (with_reducible first | exact HB.out | apply below_alloc | apply pw_below_drewN | apply below_drew1) | exact HB.out)) hb); clear HB; have HO443 := n0_; have HB := n1_; clear n0_ n1_; clear hb ho5))
 repeat (go_quiet (first | ((with_reducible refine gate_dst (N := 9) rfl ?_); refine Kd.R_make Kd.string _ 9 rfl (N := 9) rfl 36 _ _ rfl (l0.length : Int) rfl rfl Tryd.underlying36 (.string ⟨#[]⟩) 16 info9 rfl (by decide) (by omega) (⟨#[]⟩ : ByteArray) (ok := fun _ => True) (okp := fun _ => True) rfl (fun _ hk => hk) trivial (of_decide_eq_true (by first | (with_reducible assumption) | assumption)) (Nat.le_trans (Nat.mul_le_mul_right _ (of_decide_eq_true (by first | (with_reducible assumption) | assumption) : (l0.length : Int).toNat ≤ 17592186044416)) (by omega)) (Below.refl _ _) (Nat.le_refl _) ?_; intro v442 w4 ho5 hb hg_ hnew_; clear hg_ hnew_; (first | rw [← Ny441.out] at ho5 | (simp only [Int.reduceToNat] at ho5; rw [← Ny441.out] at ho5)); have n0_ := Aside0.mk (Kd.R_lower ho5 (below_size (by repeat (first | (with_reducible first | exact HB.out | apply below_alloc | apply pw_below_drewN | apply below_drew1) | exact HB.out)))); have n1_ := Aside0.mk (below_step (by repeat (first | (with_reducible first | exact HB.out | apply below_alloc | apply pw_below_drewN | apply below_drew1) | exact HB.out)) hb); clear HB; have HO443 := n0_; have HB := n1_; clear n0_ n1_; clear hb ho5)); try go_wp2_with (first | ((with_reducible refine gate_dst (N := 9) rfl ?_); refine Kd.R_make Kd.string _ 9 rfl (N := 9) rfl 36 _ _ rfl (l0.length : Int) rfl rfl Tryd.underlying36 (.string ⟨#[]⟩) 16 info9 rfl (by decide) (by omega) (⟨#[]⟩ : ByteArray) (ok := fun _ => True) (okp := fun _ => True) rfl (fun _ hk => hk) trivial (of_decide_eq_true (by first | (with_reducible assumption) | assumption)) (Nat.le_trans (Nat.mul_le_mul_right _ (of_decide_eq_true (by first | (with_reducible assumption) | assumption) : (l0.length : Int).toNat ≤ 17592186044416)) (by omega)) (Below.refl _ _) (Nat.le_refl _) ?_; intro v442 w4 ho5 hb hg_ hnew_; clear hg_ hnew_; (first | rw [← Ny441.out] at ho5 | (simp only [Int.reduceToNat] at ho5; rw [← Ny441.out] at ho5)); have n0_ := Aside0.mk (Kd.R_lower ho5 (below_size (by repeat (first | (with_reducible first | exact HB.out | apply below_alloc | apply pw_below_drewN | apply below_drew1) | exact HB.out)))); have n1_ := Aside0.mk (below_step (by repeat (first | (with_reducible first | exact HB.out | apply below_alloc | apply pw_below_drewN | apply below_drew1) | exact HB.out)) hb); clear HB; have HO443 := n0_; have HB := n1_; clear n0_ n1_; clear hb ho5)))
 go_loopg [4] k (fun kq v4 w' => ∃ (x3_1 : List ByteArray) (x4_1 : Int), v4 = .int .i64 x4_1 ∧ Aside0 (palaverlaw03_clash.l0 kq l0 x3_1 x4_1 = some r) ∧ Aside0 (kq ≤ k) ∧ Aside0 (Kd.R Kd.string 9 w' w.heap.size (fun _ => True) v442 x3_1) ∧ Aside0 (Below w.heap.size w w'))
 case atStart => exact ⟨(y441), (0), (by first | rfl | (simp; done) | (simp [*]; done) | exact congrArg Value.bool (nonempty_l _) | (refine congrArg (Value.int _) ?_; first | omega | (unfold Go.RowKit.wrap64; omega))), H', ⟨Nat.le_refl _⟩, ⟨by (with_reducible repeat (first | apply Kd.R_alloc | apply Kd.R_drewN | apply Kd.R_drew)); exact HO443.out⟩, ⟨by repeat (first | (with_reducible first | exact HB.out | apply below_alloc | apply pw_below_drewN | apply below_drew1) | exact HB.out)⟩⟩
 case round =>
  clear H'
  (try clear c2); (try clear c2b0); (try clear c2b1); (try clear p2); (try clear c3); (try clear c3b0); (try clear c3b1)
  obtain ⟨x3_1, x4_1, rfl, HA, HK1, HO_3, HB⟩ := hrel
  cases gk with
  | zero => exact absurd HA.out (by simp [palaverlaw03_clash.l0])
  | succ k1 =>
   have H := HA.out
   clear HA
   simp only [palaverlaw03_clash.l0] at H
   by_cases c6 : x4_1 < (l0.length : Int)
   ·rw [if_pos c6] at H
    have c6b0 : decide (x4_1 < (l0.length : Int)) = true := decide_eq_true c6
    clear c6
    by_cases c7 : 0 ≤ x4_1
    rotate_left
    ·rw [if_neg c7] at H
     exact absurd H (by simp)
    rw [if_pos c7] at H
    have c7b0 : decide (0 ≤ x4_1) = true := decide_eq_true c7
    clear c7
    replace H := Option.bind_eq_some_iff.mp H
    obtain ⟨t445, A80, H⟩ := H
    replace H : (if x4_1 < (x3_1.length : Int) then (palaverlaw03_clash.l0 k1 l0 (x3_1.set (x4_1 : Int).toNat t445) (wrap64 (x4_1 + 1))) else (none)) = some r := H
    have A8 := Aside0.mk A80
    clear A80
    by_cases c9 : x4_1 < (x3_1.length : Int)
    rotate_left
    ·rw [if_neg c9] at H
     exact absurd H (by simp)
    rw [if_pos c9] at H
    have c9b0 : decide (x4_1 < (x3_1.length : Int)) = true := decide_eq_true c9
    clear c9
    obtain ⟨y446, hy446⟩ : ∃ y_ : List ByteArray, y_ = (x3_1.set (x4_1 : Int).toNat t445) := ⟨_, rfl⟩
    replace H : (palaverlaw03_clash.l0 k1 l0 y446 (wrap64 (x4_1 + 1))) = some r := by first | (rw [hy446]; with_reducible exact H) | (have H2_ := (Option.bind_some _ _).symm.trans H; rw [hy446]; with_reducible exact H2_) | (have H2_ := (Option.bind_some _ _).symm.trans H; with_reducible exact H2_) | with_reducible exact H | (rw [hy446]; exact H) | exact H
    have Ny446 := Aside0.mk hy446
    clear hy446
    have H' := Aside0.mk H
    clear H
    have p444 : 0 ≤ (x4_1 : Int) := of_decide_eq_true (by first | (with_reducible assumption) | assumption)
    have q444 : x4_1 < (l0.length : Int) := of_decide_eq_true (by first | (with_reducible assumption) | assumption)
    obtain ⟨ad444, e444, hx444_0⟩ := Kd.at_string HR0.out x4_1 p444 q444
    cases e444
    replace hx444_0 := (HB.out.cell (World.block_lt_of_cell? w _ hx444_0)).trans hx444_0
    replace p444 := eq_true p444
    replace q444 := eq_true q444
    go_wp2_with (first | (go_at_call 39; (with_reducible refine (palaverref02_Sum.calls k1 (rdOf ByteArray.empty l0 x4_1) t445 _ A8.out).mono ?_); rintro e w11 ⟨rfl, hb⟩; have n0_ := Aside0.mk (Kd.R_below (by (with_reducible repeat (first | apply Kd.R_alloc | apply Kd.R_drewN | apply Kd.R_drew)); exact HO_3.out) hb); have n1_ := Aside0.mk (below_step (by repeat (first | (with_reducible first | exact HB.out | apply below_alloc | apply pw_below_drewN | apply below_drew1) | exact HB.out)) hb); clear HO_3; clear HB; have HO_3 := n0_; have HB := n1_; clear n0_ n1_; (try clear hb); (try clear hb2); (try clear hk); (try clear hi); have p10 : 0 ≤ (x4_1 : Int) := of_decide_eq_true (by first | (with_reducible assumption) | assumption); have q10 : (x4_1 : Int) < ((x3_1.length : Int) : Int) := of_decide_eq_true (by first | (with_reducible assumption) | assumption); obtain ⟨go10, co10, eo10, gb10, gl10, cl10, HG10⟩ := Kd.R_form HO_3.out (by omega); (first | cases eo10 | (injection eo10 with ea_ en_ ec_; (first | subst ea_ | (injection ea_ with ea_; subst ea_)); subst ec_; clear en_)); have GB10 := Aside0.mk gb10; have GG10 := Aside0.mk HG10; clear gb10 gl10 HG10; obtain ⟨hx10_0, hf10_0⟩ := Kd.R_celln (⟨#[]⟩ : ByteArray) HO_3.out (x4_1 : Int) p10 q10; replace p10 := eq_true p10; replace q10 := eq_true q10; obtain ⟨hy12_, hz12_⟩ := Kd.R_celln (⟨#[]⟩ : ByteArray) HO_3.out (x4_1 : Int) (of_decide_eq_true (by first | (with_reducible assumption) | assumption)) (of_decide_eq_true (by first | (with_reducible assumption) | assumption)); have HP12 := Kd.R_putg HO_3.out (x4_1 : Int) t445) | ((with_reducible refine gate_store (t := 9) (p := 23) rfl ?_); (try (rw [drewN_self w11]; generalize hq_ : World.drewN w11 _ = w11; have n0_ := Aside0.mk (Kd.R_at hq_ HO_3.out); have n1_ := Aside0.mk (below_at hq_ HB.out); clear hq_ HO_3 HB; have HO_3 := n0_; have HB := n1_; clear n0_ n1_; (try (try (obtain ⟨hx10_0, hf10_0⟩ := Kd.R_celln (⟨#[]⟩ : ByteArray) HO_3.out (x4_1 : Int) (by first | exact p10 | exact of_eq_true p10) (by first | exact q10 | exact of_eq_true q10)))); (try (obtain ⟨hy12_, hz12_⟩ := Kd.R_celln (⟨#[]⟩ : ByteArray) HO_3.out (x4_1 : Int) (of_decide_eq_true (by first | (with_reducible assumption) | assumption)) (of_decide_eq_true (by first | (with_reducible assumption) | assumption)))); (try (have HP12 := Kd.R_putg HO_3.out (x4_1 : Int) t445)))); refine store_event (t := 9) (p := 23) (v := ?vo_w13) (w1 := (w11.setCell ⟨go10, (x4_1 : Int).toNat, none⟩ (.string t445))) ?hg ?ho ?hn ?hr ?_; (case ho => rfl); (case hg => rfl); (case hn => rfl); (case hr => first | (go_simp; done) | (go_simp; rfl)); intro w13 hw; have hg : w11.grownBy w13 (some go10) := (by rw [hw]; exact HP12.2); have hp_ : Kd.R Kd.string 9 w13 w.heap.size (fun _ => True) (.slice (some ⟨go10, 0, none⟩) x3_1.length co10) y446 := (by rw [hw, Ny446.out]; exact HP12.1); clear HP12; have n0_ := Aside0.mk (hp_); have n1_ := Aside0.mk ((by rw [hw]; exact below_set (HB.out) GB10.out : Below w.heap.size w w13)); clear HO_3; clear HB; have HO_3 := n0_; have HB := n1_; clear n0_ n1_; clear hg hw hp_))
    repeat (go_quiet (first | (go_at_call 39; (with_reducible refine (palaverref02_Sum.calls k1 (rdOf ByteArray.empty l0 x4_1) t445 _ A8.out).mono ?_); rintro e w11 ⟨rfl, hb⟩; have n0_ := Aside0.mk (Kd.R_below (by (with_reducible repeat (first | apply Kd.R_alloc | apply Kd.R_drewN | apply Kd.R_drew)); exact HO_3.out) hb); have n1_ := Aside0.mk (below_step (by repeat (first | (with_reducible first | exact HB.out | apply below_alloc | apply pw_below_drewN | apply below_drew1) | exact HB.out)) hb); clear HO_3; clear HB; have HO_3 := n0_; have HB := n1_; clear n0_ n1_; (try clear hb); (try clear hb2); (try clear hk); (try clear hi); have p10 : 0 ≤ (x4_1 : Int) := of_decide_eq_true (by first | (with_reducible assumption) | assumption); have q10 : (x4_1 : Int) < ((x3_1.length : Int) : Int) := of_decide_eq_true (by first | (with_reducible assumption) | assumption); obtain ⟨go10, co10, eo10, gb10, gl10, cl10, HG10⟩ := Kd.R_form HO_3.out (by omega); (first | cases eo10 | (injection eo10 with ea_ en_ ec_; (first | subst ea_ | (injection ea_ with ea_; subst ea_)); subst ec_; clear en_)); have GB10 := Aside0.mk gb10; have GG10 := Aside0.mk HG10; clear gb10 gl10 HG10; obtain ⟨hx10_0, hf10_0⟩ := Kd.R_celln (⟨#[]⟩ : ByteArray) HO_3.out (x4_1 : Int) p10 q10; replace p10 := eq_true p10; replace q10 := eq_true q10; obtain ⟨hy12_, hz12_⟩ := Kd.R_celln (⟨#[]⟩ : ByteArray) HO_3.out (x4_1 : Int) (of_decide_eq_true (by first | (with_reducible assumption) | assumption)) (of_decide_eq_true (by first | (with_reducible assumption) | assumption)); have HP12 := Kd.R_putg HO_3.out (x4_1 : Int) t445) | ((with_reducible refine gate_store (t := 9) (p := 23) rfl ?_); (try (rw [drewN_self w11]; generalize hq_ : World.drewN w11 _ = w11; have n0_ := Aside0.mk (Kd.R_at hq_ HO_3.out); have n1_ := Aside0.mk (below_at hq_ HB.out); clear hq_ HO_3 HB; have HO_3 := n0_; have HB := n1_; clear n0_ n1_; (try (try (obtain ⟨hx10_0, hf10_0⟩ := Kd.R_celln (⟨#[]⟩ : ByteArray) HO_3.out (x4_1 : Int) (by first | exact p10 | exact of_eq_true p10) (by first | exact q10 | exact of_eq_true q10)))); (try (obtain ⟨hy12_, hz12_⟩ := Kd.R_celln (⟨#[]⟩ : ByteArray) HO_3.out (x4_1 : Int) (of_decide_eq_true (by first | (with_reducible assumption) | assumption)) (of_decide_eq_true (by first | (with_reducible assumption) | assumption)))); (try (have HP12 := Kd.R_putg HO_3.out (x4_1 : Int) t445)))); refine store_event (t := 9) (p := 23) (v := ?vo_w13) (w1 := (w11.setCell ⟨go10, (x4_1 : Int).toNat, none⟩ (.string t445))) ?hg ?ho ?hn ?hr ?_; (case ho => rfl); (case hg => rfl); (case hn => rfl); (case hr => first | (go_simp; done) | (go_simp; rfl)); intro w13 hw; have hg : w11.grownBy w13 (some go10) := (by rw [hw]; exact HP12.2); have hp_ : Kd.R Kd.string 9 w13 w.heap.size (fun _ => True) (.slice (some ⟨go10, 0, none⟩) x3_1.length co10) y446 := (by rw [hw, Ny446.out]; exact HP12.1); clear HP12; have n0_ := Aside0.mk (hp_); have n1_ := Aside0.mk ((by rw [hw]; exact below_set (HB.out) GB10.out : Below w.heap.size w w13)); clear HO_3; clear HB; have HO_3 := n0_; have HB := n1_; clear n0_ n1_; clear hg hw hp_)); try go_wp2_with (first | (go_at_call 39; (with_reducible refine (palaverref02_Sum.calls k1 (rdOf ByteArray.empty l0 x4_1) t445 _ A8.out).mono ?_); rintro e w11 ⟨rfl, hb⟩; have n0_ := Aside0.mk (Kd.R_below (by (with_reducible repeat (first | apply Kd.R_alloc | apply Kd.R_drewN | apply Kd.R_drew)); exact HO_3.out) hb); have n1_ := Aside0.mk (below_step (by repeat (first | (with_reducible first | exact HB.out | apply below_alloc | apply pw_below_drewN | apply below_drew1) | exact HB.out)) hb); clear HO_3; clear HB; have HO_3 := n0_; have HB := n1_; clear n0_ n1_; (try clear hb); (try clear hb2); (try clear hk); (try clear hi); have p10 : 0 ≤ (x4_1 : Int) := of_decide_eq_true (by first | (with_reducible assumption) | assumption); have q10 : (x4_1 : Int) < ((x3_1.length : Int) : Int) := of_decide_eq_true (by first | (with_reducible assumption) | assumption); obtain ⟨go10, co10, eo10, gb10, gl10, cl10, HG10⟩ := Kd.R_form HO_3.out (by omega); (first | cases eo10 | (injection eo10 with ea_ en_ ec_; (first | subst ea_ | (injection ea_ with ea_; subst ea_)); subst ec_; clear en_)); have GB10 := Aside0.mk gb10; have GG10 := Aside0.mk HG10; clear gb10 gl10 HG10; obtain ⟨hx10_0, hf10_0⟩ := Kd.R_celln (⟨#[]⟩ : ByteArray) HO_3.out (x4_1 : Int) p10 q10; replace p10 := eq_true p10; replace q10 := eq_true q10; obtain ⟨hy12_, hz12_⟩ := Kd.R_celln (⟨#[]⟩ : ByteArray) HO_3.out (x4_1 : Int) (of_decide_eq_true (by first | (with_reducible assumption) | assumption)) (of_decide_eq_true (by first | (with_reducible assumption) | assumption)); have HP12 := Kd.R_putg HO_3.out (x4_1 : Int) t445) | ((with_reducible refine gate_store (t := 9) (p := 23) rfl ?_); (try (rw [drewN_self w11]; generalize hq_ : World.drewN w11 _ = w11; have n0_ := Aside0.mk (Kd.R_at hq_ HO_3.out); have n1_ := Aside0.mk (below_at hq_ HB.out); clear hq_ HO_3 HB; have HO_3 := n0_; have HB := n1_; clear n0_ n1_; (try (try (obtain ⟨hx10_0, hf10_0⟩ := Kd.R_celln (⟨#[]⟩ : ByteArray) HO_3.out (x4_1 : Int) (by first | exact p10 | exact of_eq_true p10) (by first | exact q10 | exact of_eq_true q10)))); (try (obtain ⟨hy12_, hz12_⟩ := Kd.R_celln (⟨#[]⟩ : ByteArray) HO_3.out (x4_1 : Int) (of_decide_eq_true (by first | (with_reducible assumption) | assumption)) (of_decide_eq_true (by first | (with_reducible assumption) | assumption)))); (try (have HP12 := Kd.R_putg HO_3.out (x4_1 : Int) t445)))); refine store_event (t := 9) (p := 23) (v := ?vo_w13) (w1 := (w11.setCell ⟨go10, (x4_1 : Int).toNat, none⟩ (.string t445))) ?hg ?ho ?hn ?hr ?_; (case ho => rfl); (case hg => rfl); (case hn => rfl); (case hr => first | (go_simp; done) | (go_simp; rfl)); intro w13 hw; have hg : w11.grownBy w13 (some go10) := (by rw [hw]; exact HP12.2); have hp_ : Kd.R Kd.string 9 w13 w.heap.size (fun _ => True) (.slice (some ⟨go10, 0, none⟩) x3_1.length co10) y446 := (by rw [hw, Ny446.out]; exact HP12.1); clear HP12; have n0_ := Aside0.mk (hp_); have n1_ := Aside0.mk ((by rw [hw]; exact below_set (HB.out) GB10.out : Below w.heap.size w w13)); clear HO_3; clear HB; have HO_3 := n0_; have HB := n1_; clear n0_ n1_; clear hg hw hp_)))
    go_roundg k1
    case measure => have := HK1.out; omega
    case rel => exact ⟨(y446), (wrap64 (x4_1 + 1)), (by first | rfl | (simp; done) | (simp [*]; done) | exact congrArg Value.bool (nonempty_l _) | (refine congrArg (Value.int _) ?_; first | omega | (unfold Go.RowKit.wrap64; omega))), H', ⟨by have := HK1.out; omega⟩, ⟨by (with_reducible repeat (first | apply Kd.R_alloc | apply Kd.R_drewN | apply Kd.R_drew)); exact HO_3.out⟩, ⟨by repeat (first | (with_reducible first | exact HB.out | apply below_alloc | apply pw_below_drewN | apply below_drew1) | exact HB.out)⟩⟩
   ·rw [if_neg c6] at H
    have c6b0 : decide (x4_1 < (l0.length : Int)) = false := decide_eq_false c6
    clear c6
    have H' := Aside0.mk H
    clear H
    go_wp2
    repeat (go_quiet (fail); try go_wp2)
    go_loopg [5] k1 (fun kq v5 w' => ∃ (x5_2 : Int), v5 = .int .i64 x5_2 ∧ Aside0 (palaverlaw03_clash.l1 kq l0 x3_1 x5_2 = some r) ∧ Aside0 (kq ≤ k1) ∧ Aside0 (Kd.R Kd.string 9 w' w.heap.size (fun _ => True) v442 x3_1) ∧ Aside0 (Below w.heap.size w w'))
    case atStart => exact ⟨(0), (by first | rfl | (simp; done) | (simp [*]; done) | exact congrArg Value.bool (nonempty_l _) | (refine congrArg (Value.int _) ?_; first | omega | (unfold Go.RowKit.wrap64; omega))), H', ⟨Nat.le_refl _⟩, ⟨by (with_reducible repeat (first | apply Kd.R_alloc | apply Kd.R_drewN | apply Kd.R_drew)); exact HO_3.out⟩, ⟨by repeat (first | (with_reducible first | exact HB.out | apply below_alloc | apply pw_below_drewN | apply below_drew1) | exact HB.out)⟩⟩
    case round =>
     clear H'
     (try clear p1); (try clear q1); (try clear hx1); (try clear hf1); (try clear c2); (try clear c2b0); (try clear c2b1); (try clear p2); (try clear c3); (try clear c3b0); (try clear c3b1); (try clear p4); (try clear q4); (try clear hx4); (try clear c6); (try clear c6b0); (try clear p6); (try clear c7); (try clear c7b0); (try clear c9); (try clear c9b0); (try clear p10); (try clear q10); (try clear hx10); (try clear hf10); (try clear hx10_0); (try clear hx444_0); (try clear p10); (try clear p2); (try clear p444); (try clear q10); (try clear q444)
     obtain ⟨x5_2, rfl, HA, HK2, HO_3, HB⟩ := hrel
     cases gk with
     | zero => exact absurd HA.out (by simp [palaverlaw03_clash.l1])
     | succ k2 =>
      have H := HA.out
      clear HA
      simp only [palaverlaw03_clash.l1] at H
      by_cases c14 : x5_2 < (l0.length : Int)
      ·rw [if_pos c14] at H
       have c14b0 : decide (x5_2 < (l0.length : Int)) = true := decide_eq_true c14
       clear c14
       have H' := Aside0.mk H
       clear H
       go_wp2
       repeat (go_quiet (fail); try go_wp2)
       go_loopg [6] k2 (fun kq v6 w' => ∃ (x6_3 : Int), v6 = .int .i64 x6_3 ∧ Aside0 (palaverlaw03_clash.l2 kq l0 x3_1 x5_2 x6_3 = some r) ∧ Aside0 (kq ≤ k2) ∧ Aside0 (Kd.R Kd.string 9 w' w.heap.size (fun _ => True) v442 x3_1) ∧ Aside0 (Below w.heap.size w w'))
       case atStart => exact ⟨(0), (by first | rfl | (simp; done) | (simp [*]; done) | exact congrArg Value.bool (nonempty_l _) | (refine congrArg (Value.int _) ?_; first | omega | (unfold Go.RowKit.wrap64; omega))), H', ⟨Nat.le_refl _⟩, ⟨by (with_reducible repeat (first | apply Kd.R_alloc | apply Kd.R_drewN | apply Kd.R_drew)); exact HO_3.out⟩, ⟨by repeat (first | (with_reducible first | exact HB.out | apply below_alloc | apply pw_below_drewN | apply below_drew1) | exact HB.out)⟩⟩
       case round =>
        clear H'
        (try clear c1); (try clear p1); (try clear q1); (try clear hx1); (try clear hf1); (try clear c2); (try clear c2b0); (try clear c2b1); (try clear p2); (try clear c3); (try clear c3b0); (try clear c3b1); (try clear p4); (try clear q4); (try clear hx4); (try clear c6); (try clear c6b0); (try clear p6); (try clear c7); (try clear c7b0); (try clear c9); (try clear c9b0); (try clear p10); (try clear q10); (try clear hx10); (try clear hf10); (try clear c14); (try clear c14b0); (try clear hx10_0); (try clear hx444_0); (try clear p1); (try clear p10); (try clear p2); (try clear p4); (try clear p444); (try clear p6); (try clear q1); (try clear q10); (try clear q4); (try clear q444)
        obtain ⟨x6_3, rfl, HA, HK3, HO_3, HB⟩ := hrel
        cases gk with
        | zero => exact absurd HA.out (by simp [palaverlaw03_clash.l2])
        | succ k3 =>
         have H := HA.out
         clear HA
         simp only [palaverlaw03_clash.l2] at H
         by_cases c15 : x6_3 < x5_2
         ·rw [if_pos c15] at H
          have c15b0 : decide (x6_3 < x5_2) = true := decide_eq_true c15
          clear c15
          by_cases c16 : 0 ≤ x5_2
          rotate_left
          ·rw [if_neg c16] at H
           exact absurd H (by simp)
          rw [if_pos c16] at H
          have c16b0 : decide (0 ≤ x5_2) = true := decide_eq_true c16
          clear c16
          by_cases c17 : x5_2 < (x3_1.length : Int)
          rotate_left
          ·rw [if_neg c17] at H
           exact absurd H (by simp)
          rw [if_pos c17] at H
          have c17b0 : decide (x5_2 < (x3_1.length : Int)) = true := decide_eq_true c17
          clear c17
          by_cases c18 : 0 ≤ x6_3
          rotate_left
          ·rw [if_neg c18] at H
           exact absurd H (by simp)
          rw [if_pos c18] at H
          have c18b0 : decide (0 ≤ x6_3) = true := decide_eq_true c18
          clear c18
          by_cases c19 : x6_3 < (x3_1.length : Int)
          rotate_left
          ·rw [if_neg c19] at H
           exact absurd H (by simp)
          rw [if_pos c19] at H
          have c19b0 : decide (x6_3 < (x3_1.length : Int)) = true := decide_eq_true c19
          clear c19
          by_cases c20 : (rdOf ByteArray.empty x3_1 x5_2).toList = (rdOf ByteArray.empty x3_1 x6_3).toList
          ·rw [if_pos c20] at H
           have c20b0 : ((rdOf ByteArray.empty x3_1 x5_2).toList == (rdOf ByteArray.empty x3_1 x6_3).toList) = true := beq_iff_eq.mpr c20
           have c20b1 : ((rdOf ByteArray.empty x3_1 x5_2).toList != (rdOf ByteArray.empty x3_1 x6_3).toList) = false := bne_eq_false_iff_eq.mpr c20
           clear c20
           by_cases c21 : x5_2 < (l0.length : Int)
           rotate_left
           ·rw [if_neg c21] at H
            exact absurd H (by simp)
           rw [if_pos c21] at H
           have c21b0 : decide (x5_2 < (l0.length : Int)) = true := decide_eq_true c21
           clear c21
           by_cases c22 : x6_3 < (l0.length : Int)
           rotate_left
           ·rw [if_neg c22] at H
            exact absurd H (by simp)
           rw [if_pos c22] at H
           have c22b0 : decide (x6_3 < (l0.length : Int)) = true := decide_eq_true c22
           clear c22
           by_cases c23 : (rdOf ByteArray.empty l0 x5_2).toList = (rdOf ByteArray.empty l0 x6_3).toList
           ·rw [if_pos c23] at H
            have c23b0 : ((rdOf ByteArray.empty l0 x5_2).toList == (rdOf ByteArray.empty l0 x6_3).toList) = true := beq_iff_eq.mpr c23
            have c23b1 : ((rdOf ByteArray.empty l0 x5_2).toList != (rdOf ByteArray.empty l0 x6_3).toList) = false := bne_eq_false_iff_eq.mpr c23
            clear c23
            have H' := Aside0.mk H
            clear H
            obtain ⟨Ao24, co24, eo24⟩ := Kd.R_slice HO_3.out
            subst eo24
            have p447 : 0 ≤ (x5_2 : Int) := of_decide_eq_true (by first | (with_reducible assumption) | assumption)
            have q447 : x5_2 < (x3_1.length : Int) := of_decide_eq_true (by first | (with_reducible assumption) | assumption)
            obtain ⟨ad447, e447, hx447_0⟩ := Kd.at_string (Kd.R_reads' HO_3.out).2.2 x5_2 p447 q447
            cases e447
            replace p447 := eq_true p447
            replace q447 := eq_true q447
            have p448 : 0 ≤ (x6_3 : Int) := of_decide_eq_true (by first | (with_reducible assumption) | assumption)
            have q448 : x6_3 < (x3_1.length : Int) := of_decide_eq_true (by first | (with_reducible assumption) | assumption)
            obtain ⟨ad448, e448, hx448_0⟩ := Kd.at_string (Kd.R_reads' HO_3.out).2.2 x6_3 p448 q448
            obtain rfl : ad447 = ad448 := (by injection e448)
            replace p448 := eq_true p448
            replace q448 := eq_true q448
            have p449 : 0 ≤ (x5_2 : Int) := of_decide_eq_true (by first | (with_reducible assumption) | assumption)
            have q449 : x5_2 < (l0.length : Int) := of_decide_eq_true (by first | (with_reducible assumption) | assumption)
            obtain ⟨ad449, e449, hx449_0⟩ := Kd.at_string HR0.out x5_2 p449 q449
            cases e449
            replace hx449_0 := (HB.out.cell (World.block_lt_of_cell? w _ hx449_0)).trans hx449_0
            replace p449 := eq_true p449
            replace q449 := eq_true q449
            have p450 : 0 ≤ (x6_3 : Int) := of_decide_eq_true (by first | (with_reducible assumption) | assumption)
            have q450 : x6_3 < (l0.length : Int) := of_decide_eq_true (by first | (with_reducible assumption) | assumption)
            obtain ⟨ad450, e450, hx450_0⟩ := Kd.at_string HR0.out x6_3 p450 q450
            obtain rfl : ad449 = ad450 := (by injection e450)
            replace hx450_0 := (HB.out.cell (World.block_lt_of_cell? w _ hx450_0)).trans hx450_0
            replace p450 := eq_true p450
            replace q450 := eq_true q450
            go_wp2
            repeat (go_quiet (fail); try go_wp2)
            go_roundg k3
            case measure => have := HK1.out; have := HK2.out; have := HK3.out; omega
            case rel => exact ⟨(wrap64 (x6_3 + 1)), (by first | rfl | (simp; done) | (simp [*]; done) | exact congrArg Value.bool (nonempty_l _) | (refine congrArg (Value.int _) ?_; first | omega | (unfold Go.RowKit.wrap64; omega))), H', ⟨by have := HK1.out; have := HK2.out; have := HK3.out; omega⟩, ⟨by (with_reducible repeat (first | apply Kd.R_alloc | apply Kd.R_drewN | apply Kd.R_drew)); exact HO_3.out⟩, ⟨by repeat (first | (with_reducible first | exact HB.out | apply below_alloc | apply pw_below_drewN | apply below_drew1) | exact HB.out)⟩⟩
           ·rw [if_neg c23] at H
            have c23b0 : ((rdOf ByteArray.empty l0 x5_2).toList == (rdOf ByteArray.empty l0 x6_3).toList) = false := beq_eq_false_iff_ne.mpr c23
            have c23b1 : ((rdOf ByteArray.empty l0 x5_2).toList != (rdOf ByteArray.empty l0 x6_3).toList) = true := bne_iff_ne.mpr c23
            obtain rfl := Option.some.inj H
            obtain ⟨Ao25, co25, eo25⟩ := Kd.R_slice HO_3.out
            subst eo25
            have p447 : 0 ≤ (x5_2 : Int) := of_decide_eq_true (by first | (with_reducible assumption) | assumption)
            have q447 : x5_2 < (x3_1.length : Int) := of_decide_eq_true (by first | (with_reducible assumption) | assumption)
            obtain ⟨ad447, e447, hx447_0⟩ := Kd.at_string (Kd.R_reads' HO_3.out).2.2 x5_2 p447 q447
            cases e447
            replace p447 := eq_true p447
            replace q447 := eq_true q447
            have p448 : 0 ≤ (x6_3 : Int) := of_decide_eq_true (by first | (with_reducible assumption) | assumption)
            have q448 : x6_3 < (x3_1.length : Int) := of_decide_eq_true (by first | (with_reducible assumption) | assumption)
            obtain ⟨ad448, e448, hx448_0⟩ := Kd.at_string (Kd.R_reads' HO_3.out).2.2 x6_3 p448 q448
            obtain rfl : ad447 = ad448 := (by injection e448)
            replace p448 := eq_true p448
            replace q448 := eq_true q448
            have p449 : 0 ≤ (x5_2 : Int) := of_decide_eq_true (by first | (with_reducible assumption) | assumption)
            have q449 : x5_2 < (l0.length : Int) := of_decide_eq_true (by first | (with_reducible assumption) | assumption)
            obtain ⟨ad449, e449, hx449_0⟩ := Kd.at_string HR0.out x5_2 p449 q449
            cases e449
            replace hx449_0 := (HB.out.cell (World.block_lt_of_cell? w _ hx449_0)).trans hx449_0
            replace p449 := eq_true p449
            replace q449 := eq_true q449
            have p450 : 0 ≤ (x6_3 : Int) := of_decide_eq_true (by first | (with_reducible assumption) | assumption)
            have q450 : x6_3 < (l0.length : Int) := of_decide_eq_true (by first | (with_reducible assumption) | assumption)
            obtain ⟨ad450, e450, hx450_0⟩ := Kd.at_string HR0.out x6_3 p450 q450
            obtain rfl : ad449 = ad450 := (by injection e450)
            replace hx450_0 := (HB.out.cell (World.block_lt_of_cell? w _ hx450_0)).trans hx450_0
            replace p450 := eq_true p450
            replace q450 := eq_true q450
            go_wp2
            repeat (go_quiet (fail); try go_wp2)
            go_ret
            exact ⟨by first | rfl | (simp [errW_none, errW_some] <;> rfl) | (simp [*, errW_none, errW_some] <;> rfl), by repeat (first | (with_reducible first | exact HB.out | apply below_alloc | apply pw_below_drewN | apply below_drew1) | exact HB.out)⟩
          ·rw [if_neg c20] at H
           have c20b0 : ((rdOf ByteArray.empty x3_1 x5_2).toList == (rdOf ByteArray.empty x3_1 x6_3).toList) = false := beq_eq_false_iff_ne.mpr c20
           have c20b1 : ((rdOf ByteArray.empty x3_1 x5_2).toList != (rdOf ByteArray.empty x3_1 x6_3).toList) = true := bne_iff_ne.mpr c20
           have H' := Aside0.mk H
           clear H
           obtain ⟨Ao26, co26, eo26⟩ := Kd.R_slice HO_3.out
           subst eo26
           have p447 : 0 ≤ (x5_2 : Int) := of_decide_eq_true (by first | (with_reducible assumption) | assumption)
           have q447 : x5_2 < (x3_1.length : Int) := of_decide_eq_true (by first | (with_reducible assumption) | assumption)
           obtain ⟨ad447, e447, hx447_0⟩ := Kd.at_string (Kd.R_reads' HO_3.out).2.2 x5_2 p447 q447
           cases e447
           replace p447 := eq_true p447
           replace q447 := eq_true q447
           have p448 : 0 ≤ (x6_3 : Int) := of_decide_eq_true (by first | (with_reducible assumption) | assumption)
           have q448 : x6_3 < (x3_1.length : Int) := of_decide_eq_true (by first | (with_reducible assumption) | assumption)
           obtain ⟨ad448, e448, hx448_0⟩ := Kd.at_string (Kd.R_reads' HO_3.out).2.2 x6_3 p448 q448
           obtain rfl : ad447 = ad448 := (by injection e448)
           replace p448 := eq_true p448
           replace q448 := eq_true q448
           go_wp2
           repeat (go_quiet (fail); try go_wp2)
           go_roundg k3
           case measure => have := HK1.out; have := HK2.out; have := HK3.out; omega
           case rel => exact ⟨(wrap64 (x6_3 + 1)), (by first | rfl | (simp; done) | (simp [*]; done) | exact congrArg Value.bool (nonempty_l _) | (refine congrArg (Value.int _) ?_; first | omega | (unfold Go.RowKit.wrap64; omega))), H', ⟨by have := HK1.out; have := HK2.out; have := HK3.out; omega⟩, ⟨by (with_reducible repeat (first | apply Kd.R_alloc | apply Kd.R_drewN | apply Kd.R_drew)); exact HO_3.out⟩, ⟨by repeat (first | (with_reducible first | exact HB.out | apply below_alloc | apply pw_below_drewN | apply below_drew1) | exact HB.out)⟩⟩
         ·rw [if_neg c15] at H
          have c15b0 : decide (x6_3 < x5_2) = false := decide_eq_false c15
          clear c15
          have H' := Aside0.mk H
          clear H
          go_wp2
          repeat (go_quiet (fail); try go_wp2)
          go_roundg k3
          case measure => have := HK1.out; have := HK2.out; have := HK3.out; omega
          case rel => exact ⟨(wrap64 (x5_2 + 1)), (by first | rfl | (simp; done) | (simp [*]; done) | exact congrArg Value.bool (nonempty_l _) | (refine congrArg (Value.int _) ?_; first | omega | (unfold Go.RowKit.wrap64; omega))), H', ⟨by have := HK1.out; have := HK2.out; have := HK3.out; omega⟩, ⟨by (with_reducible repeat (first | apply Kd.R_alloc | apply Kd.R_drewN | apply Kd.R_drew)); exact HO_3.out⟩, ⟨by repeat (first | (with_reducible first | exact HB.out | apply below_alloc | apply pw_below_drewN | apply below_drew1) | exact HB.out)⟩⟩
      ·rw [if_neg c14] at H
       have c14b0 : decide (x5_2 < (l0.length : Int)) = false := decide_eq_false c14
       clear c14
       obtain rfl := Option.some.inj H
       go_wp2
       repeat (go_quiet (fail); try go_wp2)
       go_ret
       exact ⟨by first | rfl | (simp [errW_none, errW_some] <;> rfl) | (simp [*, errW_none, errW_some] <;> rfl), by repeat (first | (with_reducible first | exact HB.out | apply below_alloc | apply pw_below_drewN | apply below_drew1) | exact HB.out)⟩

end Go.Proofs.YtkdbobccchkdjaaDoor.PP
