-- WRITTEN BY a program of this work (wip/ownprint.py), for this seat
import Derived.Test.YtmnppogihmhdgaaDoorPPx0
import Derived.Test.YtmnppogihmhdgaaDoorPPx2
import Derived.Test.YtmnppogihmhdgaaDoorPPx4
namespace Go.Proofs.YtmnppogihmhdgaaDoor.PP
open Go.RowKit Go.Proofs.YtmnppogihmhdgaaDoorW.PrintWords Go.Proofs.YtmnppogihmhdgaaDoorW.PrintLast Go.Proofs.YtmnppogihmhdgaaDoorW.PrintMore
attribute [local go_sem] max2_int min2_int max_two min_two max_three min_three max_four min_four   -- for this text's walks alone
set_option linter.unusedVariables false
set_option linter.unusedSimpArgs false

/-! ### octets_laid: function 43 -/
mutual
def octets_laid.j0 : Nat → Int → Int → Bool → Option (ByteArray × Bool)
 | 0, _, _, _ => none
 | k + 1, x0, x1, x16 => if x16 = true then (some ((⟨#[]⟩ : ByteArray), false)) else (if 0 ≤ x1 then (if (x1 : Int).toNat ≤ 281474976710656 then ((some (List.replicate (x1 : Int).toNat 0 : List Int)).bind fun y150 => (octets_laid.l0 k x0 x1 y150 (y150.length : Int) 0)) else (none)) else (none))
def octets_laid.l0 : Nat → Int → Int → List Int → Int → Int → Option (ByteArray × Bool)
 | 0, _, _, _, _, _ => none
 | k + 1, x0, x1, x6, x20, x21 => if x21 < x20 then (if 0 ≤ (wrap64 (8 * x21)) then (if 0 ≤ (wrap64 ((wrap64 (x1 - 1)) - x21)) then (if (wrap64 ((wrap64 (x1 - 1)) - x21)) < (x6.length : Int) then (octets_laid.l0 k x0 x1 (x6.set ((wrap64 ((wrap64 (x1 - 1)) - x21)) : Int).toNat ((shr .i64 x0 (wrap64 (8 * x21))) % 256)) x20 (wrap64 (x21 + 1))) else (none)) else (none)) else (none)) else (some (strOfNums x6, true))
end
def octets_laid.f (k : Nat) (a0 : Int) (a1 : Int) : Option (ByteArray × Bool) := if a0 < 0 then (octets_laid.j0 k a0 a1 true) else (if 0 ≤ (wrap64 (8 * a1)) then (octets_laid.j0 k a0 a1 ((shr .i64 a0 (wrap64 (8 * a1))) != 0)) else (none))
theorem octets_laid.mono_l : ∀ k, (∀ y0 y1 y2, LeO (octets_laid.j0 k y0 y1 y2) (octets_laid.j0 (k + 1) y0 y1 y2)) ∧ (∀ y0 y1 y2 y3 y4, LeO (octets_laid.l0 k y0 y1 y2 y3 y4) (octets_laid.l0 (k + 1) y0 y1 y2 y3 y4))
 | 0 => ⟨fun _ _ _ r h => by simp [octets_laid.j0] at h, fun _ _ _ _ _ r h => by simp [octets_laid.l0] at h⟩
 | k + 1 => by
  obtain ⟨ih0, ih1⟩ := octets_laid.mono_l k
  refine ⟨?_, ?_⟩
  ·intro y0 y1 y2
   unfold octets_laid.j0
   repeat' first
   | (with_reducible exact ih0 _ _ _)
   | (with_reducible exact ih1 _ _ _ _ _)
   | (with_reducible exact LeO.refl _)
   | (with_reducible exact LeO.none _)
   | (with_reducible refine LeO.ite ?_ ?_)
   | (with_reducible refine LeO.bind ?_ (fun _ => ?_))
   | exact ih0 _ _ _
   | exact ih1 _ _ _ _ _
   | exact LeO.none _
   | refine LeO.ite ?_ ?_
   | refine LeO.bind ?_ (fun _ => ?_)
  ·intro y0 y1 y2 y3 y4
   unfold octets_laid.l0
   repeat' first
   | (with_reducible exact ih0 _ _ _)
   | (with_reducible exact ih1 _ _ _ _ _)
   | (with_reducible exact LeO.refl _)
   | (with_reducible exact LeO.none _)
   | (with_reducible refine LeO.ite ?_ ?_)
   | (with_reducible refine LeO.bind ?_ (fun _ => ?_))
   | exact ih0 _ _ _
   | exact ih1 _ _ _ _ _
   | exact LeO.none _
   | refine LeO.ite ?_ ?_
   | refine LeO.bind ?_ (fun _ => ?_)
theorem octets_laid.mono : ∀ a0 a1 k, LeO (octets_laid.f k a0 a1) (octets_laid.f (k + 1) a0 a1) := by
 intro a0 a1 k
 obtain ⟨ih0, ih1⟩ := octets_laid.mono_l k
 unfold octets_laid.f
 repeat' first
  | (with_reducible exact ih0 _ _ _)
  | (with_reducible exact ih1 _ _ _ _ _)
  | (with_reducible exact LeO.refl _)
  | (with_reducible exact LeO.none _)
  | (with_reducible refine LeO.ite ?_ ?_)
  | (with_reducible refine LeO.bind ?_ (fun _ => ?_))
  | exact ih0 _ _ _
  | exact ih1 _ _ _ _ _
  | exact LeO.none _
  | refine LeO.ite ?_ ?_
  | refine LeO.bind ?_ (fun _ => ?_)
set_option maxHeartbeats 64000000 in
set_option maxRecDepth 100000 in
theorem octets_laid.calls (k : Nat) (a0 : Int) (a1 : Int) (r1 : ByteArray) (r2 : Bool) (w : World) (h : octets_laid.f k a0 a1 = some (r1, r2)) :
 Calls Tryd.prog 43 #[.int .i64 a0, .int .i64 a1] w fun e w' => e = .returned (.tuple #[.string r1, .bool r2]) ∧ Below w.heap.size w w' := by
 have HB := Aside0.mk (Below.refl w.heap.size w)
 have H : (if a0 < 0 then (octets_laid.j0 k a0 a1 true) else (if 0 ≤ (wrap64 (8 * a1)) then (octets_laid.j0 k a0 a1 ((shr .i64 a0 (wrap64 (8 * a1))) != 0)) else (none))) = some (r1, r2) := h
 clear h
 have HC3 := Aside0.mk H
 clear H
 go_enter Tryd.func43, Tryd.ntmps43
 go_upto_region 1 with (fail)
 go_cut [16] (fun v16 wc => ∃ (kq : Nat) (x16_2 : Bool), v16 = .bool x16_2 ∧ Aside0 (octets_laid.j0 kq a0 a1 x16_2 = some (r1, r2)) ∧ Aside0 (kq ≤ k) ∧ Aside0 (Below w.heap.size w wc))
 case first =>
  have H := HC3.out
  clear HC3
  by_cases c4 : a0 < 0
  ·rw [if_pos c4] at H
   have c4b0 : decide (a0 < 0) = true := decide_eq_true c4
   clear c4
   (first | rw [c4b0] | (simp only [i64_w, i32_w]; rw [c4b0]) | skip)
   have H' := Aside0.mk H
   clear H
   go_wp2
   go_meet
   case rel => exact ⟨_, (true), (by first | rfl | (simp; done) | (simp [*]; done) | exact congrArg Value.bool (nonempty_l _) | (refine congrArg (Value.int _) ?_; first | omega | (unfold Go.RowKit.wrap64; omega))), H', ⟨by first | omega | exact Nat.le_refl _⟩, ⟨by repeat (first | (with_reducible first | exact HB.out | apply below_alloc | apply pw_below_drewN | apply below_drew1) | exact HB.out)⟩⟩
  ·rw [if_neg c4] at H
   have c4b0 : decide (a0 < 0) = false := decide_eq_false c4
   clear c4
   (first | rw [c4b0] | (simp only [i64_w, i32_w]; rw [c4b0]) | skip)
   obtain ⟨ji5, hji5⟩ : ∃ j_ : Int, (wrap64 (8 * a1)) = j_ := ⟨_, rfl⟩
   replace H : (if 0 ≤ (ji5) then (octets_laid.j0 k a0 a1 ((shr .i64 a0 (ji5)) != 0)) else (none)) = some (r1, r2) := by first | (rw [hji5] at H; exact H) | (simp only [hji5] at H ⊢; exact H)
   have hji5w : (IntKind.i64.wrap (8 * a1)) = ji5 := (i64_w _).trans hji5
   by_cases c6 : 0 ≤ (ji5)
   rotate_left
   ·rw [if_neg c6] at H
    exact absurd H (by simp)
   rw [if_pos c6] at H
   have c6b0 := eq_true c6
   have c6b1 : decide (0 ≤ (ji5)) = true := decide_eq_true c6
   clear c6
   obtain ⟨ji7, hji7⟩ : ∃ j_ : Int, (shr .i64 a0 (ji5)) = j_ := ⟨_, rfl⟩
   replace H : (octets_laid.j0 k a0 a1 ((ji7) != 0)) = some (r1, r2) := by first | (rw [hji7] at H; exact H) | (simp only [hji7] at H ⊢; exact H)
   have hji7_ : (a0 / 2 ^ min (ji5).toNat 64) = ji7 := hji7
   have hji7z : (ji5) ≤ 64 → (a0 / 2 ^ (ji5).toNat) = ji7 := shr_small hji7
   (try (have hji7n : (0 ≤ (ji5)) = True := eq_true (by omega)))
   have H' := Aside0.mk H
   clear H
   go_wp2
   go_meet
   case rel => exact ⟨_, (((ji7) != 0)), (by first | rfl | (simp; done) | (simp only [← hji7] <;> (first | rfl | simp)) | (simp [*]; done) | exact congrArg Value.bool (nonempty_l _) | (refine congrArg (Value.int _) ?_; first | omega | (unfold Go.RowKit.wrap64; omega))), H', ⟨by first | omega | exact Nat.le_refl _⟩, ⟨by repeat (first | (with_reducible first | exact HB.out | apply below_alloc | apply pw_below_drewN | apply below_drew1) | exact HB.out)⟩⟩
 case rest =>
  clear HC3
  (try clear p2); (try clear c4); (try clear c4b0); (try clear c6); (try clear c6b0); (try clear c6b1); (try clear p6)
  obtain ⟨kq, x16_2, rfl, HA, HJ2, HB⟩ := hcut
  cases kq with
  | zero => exact absurd HA.out (by simp [octets_laid.j0])
  | succ kj2 =>
   have H := HA.out
   clear HA
   simp only [octets_laid.j0] at H
   by_cases c8 : x16_2 = true
   ·subst c8
    have H1 : (some ((⟨#[]⟩ : ByteArray), false)) = some (r1, r2) := by rw [if_pos rfl] at H; exact H
    clear H
    have H := H1
    clear H1
    simp only [Option.some.injEq, Prod.mk.injEq] at H
    obtain ⟨rfl, rfl⟩ := H
    go_wp2
    go_ret2
    exact ⟨by first | rfl | (simp [errW_none, errW_some] <;> rfl) | (simp [*, errW_none, errW_some] <;> rfl), by repeat (first | (with_reducible first | exact HB.out | apply below_alloc | apply pw_below_drewN | apply below_drew1) | exact HB.out)⟩
   ·replace c8 := Bool.eq_false_iff.mpr c8
    subst c8
    have H1 : (if 0 ≤ a1 then (if (a1 : Int).toNat ≤ 281474976710656 then ((some (List.replicate (a1 : Int).toNat 0 : List Int)).bind fun y150 => (octets_laid.l0 kj2 a0 a1 y150 (y150.length : Int) 0)) else (none)) else (none)) = some (r1, r2) := by rw [if_neg (show ¬ (false = true) by decide)] at H; exact H
    clear H
    have H := H1
    clear H1
    by_cases c9 : 0 ≤ a1
    rotate_left
    ·rw [if_neg c9] at H
     exact absurd H (by simp)
    rw [if_pos c9] at H
    have c9b0 := eq_true c9
    have c9b1 : decide (0 ≤ a1) = true := decide_eq_true c9
    clear c9
    by_cases c10 : (a1 : Int).toNat ≤ 281474976710656
    rotate_left
    ·rw [if_neg c10] at H
     exact absurd H (by simp)
    rw [if_pos c10] at H
    have c10b0 := eq_true c10
    have c10b1 : decide ((a1 : Int).toNat ≤ 281474976710656) = true := decide_eq_true c10
    clear c10
    obtain ⟨y150, hy150⟩ : ∃ y_ : List Int, y_ = (List.replicate (a1 : Int).toNat 0) := ⟨_, rfl⟩
    replace H : (octets_laid.l0 kj2 a0 a1 y150 (y150.length : Int) 0) = some (r1, r2) := by first | (rw [hy150]; with_reducible exact H) | (have H2_ := (Option.bind_some _ _).symm.trans H; rw [hy150]; with_reducible exact H2_) | (have H2_ := (Option.bind_some _ _).symm.trans H; with_reducible exact H2_) | with_reducible exact H | (rw [hy150]; exact H) | exact H
    have Ny150 := Aside0.mk hy150
    clear hy150
    have H' := Aside0.mk H
    clear H
    go_wp2_with (first | ((with_reducible refine gate_dst (N := 18) rfl ?_); refine Kd.R_make (Kd.int .u8) _ 5 rfl (N := 18) rfl 52 _ _ rfl a1 rfl rfl Tryd.underlying52 (.int .u8 0) 1 info5 rfl (by decide) (by omega) 0 (ok := fun _ => True) (okp := fun _ => True) rfl (fun _ hk => hk) trivial (of_decide_eq_true (by first | (with_reducible assumption) | assumption)) (Nat.le_trans (Nat.mul_le_mul_right _ (of_decide_eq_true (by first | (with_reducible assumption) | assumption) : a1.toNat ≤ 281474976710656)) (by omega)) (Below.refl _ _) (Nat.le_refl _) ?_; intro v151 w11 ho12 hb hg_ hnew_; clear hg_ hnew_; (first | rw [← Ny150.out] at ho12 | (simp only [Int.reduceToNat] at ho12; rw [← Ny150.out] at ho12)); have n0_ := Aside0.mk (Kd.R_lower ho12 (below_size (by repeat (first | (with_reducible first | exact HB.out | apply below_alloc | apply pw_below_drewN | apply below_drew1) | exact HB.out)))); have n1_ := Aside0.mk (below_step (by repeat (first | (with_reducible first | exact HB.out | apply below_alloc | apply pw_below_drewN | apply below_drew1) | exact HB.out)) hb); clear HB; have HO152 := n0_; have HB := n1_; clear n0_ n1_; clear hb ho12; obtain ⟨Ao13, co13, eo13⟩ := Kd.R_slice HO152.out; subst eo13))
    go_loopg [21] kj2 (fun kq v21 w' => ∃ (x6_2 : List Int) (x21_2 : Int), v21 = .int .i64 x21_2 ∧ Aside0 (octets_laid.l0 kq a0 a1 x6_2 (y150.length : Int) x21_2 = some (r1, r2)) ∧ Aside0 (kq ≤ kj2) ∧ Aside0 (Kd.R (Kd.int .u8) 5 w' w.heap.size (fun _ => True) (.slice Ao13 y150.length co13) x6_2) ∧ Aside0 (Below w.heap.size w w'))
    case atStart => exact ⟨(y150), (0), (by first | rfl | (simp; done) | (simp [*]; done) | exact congrArg Value.bool (nonempty_l _) | (refine congrArg (Value.int _) ?_; first | omega | (unfold Go.RowKit.wrap64; omega))), H', ⟨Nat.le_refl _⟩, ⟨by (with_reducible repeat (first | apply Kd.R_alloc | apply Kd.R_drewN | apply Kd.R_drew)); exact HO152.out⟩, ⟨by repeat (first | (with_reducible first | exact HB.out | apply below_alloc | apply pw_below_drewN | apply below_drew1) | exact HB.out)⟩⟩
    case round =>
     clear H'
     (try clear c1); (try clear p2); (try clear c4); (try clear c4b0); (try clear c6); (try clear c6b0); (try clear c6b1); (try clear p6); (try clear c8); (try clear c9); (try clear c9b0); (try clear c9b1); (try clear c10); (try clear c10b0); (try clear c10b1); (try clear p2); (try clear p6)
     obtain ⟨x6_2, x21_2, rfl, HA, HK2, HO_6, HB⟩ := hrel
     have hl6_2 := (Kd.R_reads' HO_6.out).1
     rw [hl6_2] at HO_6
     (try simp only [hl6_2])
     cases gk with
     | zero => exact absurd HA.out (by simp [octets_laid.l0])
     | succ k2 =>
      have H := HA.out
      clear HA
      simp only [octets_laid.l0] at H
      by_cases c14 : x21_2 < (y150.length : Int)
      ·rw [if_pos c14] at H
       have c14b0 : decide (x21_2 < (y150.length : Int)) = true := decide_eq_true c14
       (try (have c14b7 := c14b0; simp only [hl6_2] at c14b7))
       clear c14
       obtain ⟨ji15, hji15⟩ : ∃ j_ : Int, (wrap64 (8 * x21_2)) = j_ := ⟨_, rfl⟩
       replace H : (if 0 ≤ (ji15) then (if 0 ≤ (wrap64 ((wrap64 (a1 - 1)) - x21_2)) then (if (wrap64 ((wrap64 (a1 - 1)) - x21_2)) < (x6_2.length : Int) then (octets_laid.l0 k2 a0 a1 (x6_2.set ((wrap64 ((wrap64 (a1 - 1)) - x21_2)) : Int).toNat ((shr .i64 a0 (ji15)) % 256)) (y150.length : Int) (wrap64 (x21_2 + 1))) else (none)) else (none)) else (none)) = some (r1, r2) := by first | (rw [hji15] at H; exact H) | (simp only [hji15] at H ⊢; exact H)
       have hji15w : (IntKind.i64.wrap (8 * x21_2)) = ji15 := (i64_w _).trans hji15
       by_cases c16 : 0 ≤ (ji15)
       rotate_left
       ·rw [if_neg c16] at H
        exact absurd H (by simp)
       rw [if_pos c16] at H
       have c16b0 := eq_true c16
       have c16b1 : decide (0 ≤ (ji15)) = true := decide_eq_true c16
       clear c16
       obtain ⟨ji17, hji17⟩ : ∃ j_ : Int, (shr .i64 a0 (ji15)) = j_ := ⟨_, rfl⟩
       replace H : (if 0 ≤ (wrap64 ((wrap64 (a1 - 1)) - x21_2)) then (if (wrap64 ((wrap64 (a1 - 1)) - x21_2)) < (x6_2.length : Int) then (octets_laid.l0 k2 a0 a1 (x6_2.set ((wrap64 ((wrap64 (a1 - 1)) - x21_2)) : Int).toNat ((ji17) % 256)) (y150.length : Int) (wrap64 (x21_2 + 1))) else (none)) else (none)) = some (r1, r2) := by first | (rw [hji17] at H; exact H) | (simp only [hji17] at H ⊢; exact H)
       have hji17_ : (a0 / 2 ^ min (ji15).toNat 64) = ji17 := hji17
       have hji17z : (ji15) ≤ 64 → (a0 / 2 ^ (ji15).toNat) = ji17 := shr_small hji17
       (try (have hji17n : (0 ≤ (ji15)) = True := eq_true (by omega)))
       obtain ⟨ji18, hji18⟩ : ∃ j_ : Int, (wrap64 ((wrap64 (a1 - 1)) - x21_2)) = j_ := ⟨_, rfl⟩
       replace H : (if 0 ≤ (ji18) then (if (ji18) < (x6_2.length : Int) then (octets_laid.l0 k2 a0 a1 (x6_2.set ((ji18) : Int).toNat ((ji17) % 256)) (y150.length : Int) (wrap64 (x21_2 + 1))) else (none)) else (none)) = some (r1, r2) := by first | (rw [hji18] at H; exact H) | (simp only [hji18] at H ⊢; exact H)
       have hji18w : (IntKind.i64.wrap ((wrap64 (a1 - 1)) - x21_2)) = ji18 := (i64_w _).trans hji18
       by_cases c19 : 0 ≤ (ji18)
       rotate_left
       ·rw [if_neg c19] at H
        exact absurd H (by simp)
       rw [if_pos c19] at H
       have c19b0 : decide (0 ≤ (ji18)) = true := decide_eq_true c19
       (try (have c19b7 := c19b0; simp only [hl6_2] at c19b7))
       clear c19
       by_cases c20 : (ji18) < (x6_2.length : Int)
       rotate_left
       ·rw [if_neg c20] at H
        exact absurd H (by simp)
       rw [if_pos c20] at H
       have c20b0 : decide ((ji18) < (x6_2.length : Int)) = true := decide_eq_true c20
       (try (have c20b7 := c20b0; simp only [hl6_2] at c20b7))
       clear c20
       obtain ⟨y153, hy153⟩ : ∃ y_ : List Int, y_ = (x6_2.set ((ji18) : Int).toNat ((ji17) % 256)) := ⟨_, rfl⟩
       replace H : (octets_laid.l0 k2 a0 a1 y153 (y150.length : Int) (wrap64 (x21_2 + 1))) = some (r1, r2) := by first | (rw [hy153]; with_reducible exact H) | (have H2_ := (Option.bind_some _ _).symm.trans H; rw [hy153]; with_reducible exact H2_) | (have H2_ := (Option.bind_some _ _).symm.trans H; with_reducible exact H2_) | with_reducible exact H | (rw [hy153]; exact H) | exact H
       have Ny153 := Aside0.mk hy153
       clear hy153
       have H' := Aside0.mk H
       clear H
       have p21 : 0 ≤ ((ji18) : Int) := of_decide_eq_true (by first | (with_reducible assumption) | assumption)
       have q21 : ((ji18) : Int) < ((x6_2.length : Int) : Int) := of_decide_eq_true (by first | (with_reducible assumption) | assumption)
       obtain ⟨go21, co21, eo21, gb21, gl21, cl21, HG21⟩ := Kd.R_form HO_6.out (by omega)
       (first | cases eo21 | (injection eo21 with ea_ en_ ec_; (first | subst ea_ | (injection ea_ with ea_; subst ea_)); subst ec_; clear en_))
       have GB21 := Aside0.mk gb21
       have GG21 := Aside0.mk HG21
       clear gb21 gl21 HG21
       obtain ⟨hx21_0, hf21_0⟩ := Kd.R_celln 0 HO_6.out ((ji18) : Int) p21 q21
       replace p21 := eq_true p21
       replace q21 := eq_true q21
       have HP22 := Kd.R_putg HO_6.out ((ji18) : Int) ((ji17) % 256)
       go_wp2_with (first | ((with_reducible refine gate_store (t := 5) (p := 34) rfl ?_); refine store_event (t := 5) (p := 34) (v := ?vo_w23) (w1 := (wr.setCell ⟨go21, ((ji18) : Int).toNat, none⟩ (.int .u8 ((ji17) % 256)))) ?hg ?ho ?hn ?hr ?_; (case ho => rfl); (case hg => rfl); (case hn => rfl); (case hr => first | (go_simp; done) | (go_simp; rfl)); intro w23 hw; have hg : wr.grownBy w23 (some go21) := (by rw [hw]; exact HP22.2); have hp_ : Kd.R (Kd.int .u8) 5 w23 w.heap.size (fun _ => True) (.slice (some ⟨go21, 0, none⟩) x6_2.length co13) y153 := (by rw [hw, Ny153.out]; exact HP22.1); clear HP22; have n0_ := Aside0.mk (hp_); have n1_ := Aside0.mk ((by rw [hw]; exact below_set (HB.out) GB21.out : Below w.heap.size w w23)); clear HO_6; clear HB; have HO_6 := n0_; have HB := n1_; clear n0_ n1_; clear hg hw hp_))
       (try simp only [← hl6_2])
       go_roundg k2
       case measure => have := HJ2.out; have := HK2.out; omega
       case rel => exact ⟨(y153), (wrap64 (x21_2 + 1)), (by first | rfl | (simp; done) | (simp [*]; done) | exact congrArg Value.bool (nonempty_l _) | (refine congrArg (Value.int _) ?_; first | omega | (unfold Go.RowKit.wrap64; omega))), H', ⟨by have := HJ2.out; have := HK2.out; omega⟩, ⟨by (try simp only [hl6_2]); (with_reducible repeat (first | apply Kd.R_alloc | apply Kd.R_drewN | apply Kd.R_drew)); exact HO_6.out⟩, ⟨by repeat (first | (with_reducible first | exact HB.out | apply below_alloc | apply pw_below_drewN | apply below_drew1) | exact HB.out)⟩⟩
      ·rw [if_neg c14] at H
       have c14b0 : decide (x21_2 < (y150.length : Int)) = false := decide_eq_false c14
       (try (have c14b7 := c14b0; simp only [hl6_2] at c14b7))
       clear c14
       simp only [Option.some.injEq, Prod.mk.injEq] at H
       obtain ⟨rfl, rfl⟩ := H
       have hcv24 := own_string (P := Tryd.prog) Tryd.underlying52 Tryd.underlying5 Tryd.underlying9 (Kd.own_of_R HO_6.out)
       go_wp2
       go_ret2
       exact ⟨by first | rfl | (simp [errW_none, errW_some] <;> rfl) | (simp [*, errW_none, errW_some] <;> rfl), by repeat (first | (with_reducible first | exact HB.out | apply below_alloc | apply pw_below_drewN | apply below_drew1) | exact HB.out)⟩

/-! ### octets_Long: function 37 -/
def octets_Long.f (k : Nat) (a0 : Int) : Option (ByteArray × Bool) := (octets_laid.f k a0 4).bind fun bt154 => (some (bt154.1, bt154.2))
theorem octets_Long.mono : ∀ a0 k, LeO (octets_Long.f k a0) (octets_Long.f (k + 1) a0) := by
 intro a0 k
 unfold octets_Long.f
 repeat' first
  | (with_reducible exact octets_laid.mono _ _ _)
  | (with_reducible exact LeO.refl _)
  | (with_reducible exact LeO.none _)
  | (with_reducible refine LeO.ite ?_ ?_)
  | (with_reducible refine LeO.bind ?_ (fun _ => ?_))
  | exact octets_laid.mono _ _ _
  | exact LeO.none _
  | refine LeO.ite ?_ ?_
  | refine LeO.bind ?_ (fun _ => ?_)
set_option maxHeartbeats 64000000 in
set_option maxRecDepth 100000 in
theorem octets_Long.calls (k : Nat) (a0 : Int) (r1 : ByteArray) (r2 : Bool) (w : World) (h : octets_Long.f k a0 = some (r1, r2)) :
 Calls Tryd.prog 37 #[.int .i64 a0] w fun e w' => e = .returned (.tuple #[.string r1, .bool r2]) ∧ Below w.heap.size w w' := by
 have HB := Aside0.mk (Below.refl w.heap.size w)
 have H : ((octets_laid.f k a0 4).bind fun bt154 => (some (bt154.1, bt154.2))) = some (r1, r2) := h
 clear h
 replace H := Option.bind_eq_some_iff.mp H
 obtain ⟨⟨t154, t155⟩, A20, H⟩ := H
 replace H : (some (t154, t155)) = some (r1, r2) := H
 have A2 := Aside0.mk A20
 clear A20
 simp only [Option.some.injEq, Prod.mk.injEq] at H
 obtain ⟨rfl, rfl⟩ := H
 go_enter Tryd.func37, Tryd.ntmps37
 go_wp2_with (first | ((with_reducible refine gate_callee (f := 43) rfl ?_); refine goesL_ (some 5) rfl rfl Tryd.func43 (by kernel_rfl) rfl #[.int .i64 a0, .int .i64 4] rfl (by (try simp only [List.map_toArray, List.map_cons, List.map_nil]); first | done | rfl | (simp only [List.length_drop, List.length_take]; rfl)) ?_; (with_reducible refine (octets_laid.calls k a0 4 t154 t155 _ A2.out).mono ?_); rintro e w3 ⟨rfl, hb⟩; refine ⟨_, rfl, ?_⟩; have n0_ := Aside0.mk (below_step (by repeat (first | (with_reducible first | exact HB.out | apply below_alloc | apply pw_below_drewN | apply below_drew1) | exact HB.out)) hb); clear HB; have HB := n0_; clear n0_; (try clear hb); (try clear hb2); (try clear hk); (try clear hi)))
 go_ret2
 exact ⟨by first | rfl | (simp [errW_none, errW_some] <;> rfl) | (simp [*, errW_none, errW_some] <;> rfl), by repeat (first | (with_reducible first | exact HB.out | apply below_alloc | apply pw_below_drewN | apply below_drew1) | exact HB.out)⟩

-- NOT PRINTED: function 38 (strings_Builder_WriteString)

-- NOT PRINTED: function 39 (strings_Builder_String)

/-! ### sha_Input: function 32 (walked by hand) -/
/-- Texts with their lengths in four bytes, one behind the other. -/
def sha_Input.parts (k : Nat) : List ByteArray → Option (List UInt8)
  | [] => some []
  | s :: l => (octets_Long.f k (s.size : Int)).bind fun n => (sha_Input.parts k l).bind fun r => some ((n.1.toList ++ s.toList) ++ r)
def sha_Input.u8 (x : Int) : UInt8 := UInt8.ofNat (x % 256).toNat
def sha_Input.f (k : Nat) (a0 : Int) (l1 : List ByteArray) : Option ByteArray :=
  (sha_Input.parts k l1).bind fun r => if ([sha_Input.u8 a0] ++ r).length ≤ 140737488355328 then some ⟨([sha_Input.u8 a0] ++ r).toArray⟩ else none
theorem sha_Input.parts_mono : ∀ k l, LeO (sha_Input.parts k l) (sha_Input.parts (k + 1) l)
  | _, [] => LeO.refl _
  | k, s :: l => by
    unfold sha_Input.parts
    exact LeO.bind (octets_Long.mono _ _) fun _ => LeO.bind (sha_Input.parts_mono k l) fun _ => LeO.refl _
theorem sha_Input.mono : ∀ a0 l1 k, LeO (sha_Input.f k a0 l1) (sha_Input.f (k + 1) a0 l1) := by
  intro a0 l1 k
  unfold sha_Input.f
  exact LeO.bind (sha_Input.parts_mono k l1) fun _ => LeO.refl _
theorem sha_Input.wrap_step {n : Nat} {x : Int} (h : (n : Nat) ≤ 9223372036854775807) (h0 : 0 ≤ x) (h1 : x < (n : Int)) : IntKind.i64.wrap (x + 1) = x + 1 := by
  rw [IntKind.wrap_i64]; omega
theorem sha_Input.size_toList (s : ByteArray) : s.toList.length = s.size := by rw [ByteArray.toList_eq, data_length]
theorem sha_Input.drop_rd (l : List ByteArray) (x : Int) (h0 : 0 ≤ x) (h1 : x < (l.length : Int)) : l.drop x.toNat = rdOf ByteArray.empty l x :: l.drop (x + 1).toNat := by
  have hl : x.toNat < l.length := by omega
  have e : (x + 1).toNat = x.toNat + 1 := by omega
  rw [e, List.drop_eq_getElem_cons hl]
  congr 1
  simp [rdOf, List.getD, hl]
set_option maxHeartbeats 8000000 in
set_option maxRecDepth 100000 in
theorem sha_Input.calls (k : Nat) (a0 : Int) (A1 : Option Addr) (c1 : Nat) (l1 : List ByteArray) (r : ByteArray) (w : World) (hr1 : Kd.C Kd.string w A1 l1.length l1) (hc1 : l1.length ≤ c1) (h : sha_Input.f k a0 l1 = some r) :
    Calls Tryd.prog 32 #[.int .i64 a0, .slice A1 l1.length c1] w fun e w' => e = .returned (.string r) ∧ Below w.heap.size w w' := by
  have HR1 := Aside0.mk hr1
  have HC1 := Aside0.mk hc1
  clear hr1 hc1
  unfold sha_Input.f at h
  obtain ⟨rest, hR, h⟩ := Option.bind_eq_some_iff.mp h
  obtain ⟨bs, hbs⟩ : ∃ bs, [sha_Input.u8 a0] ++ rest = bs := ⟨_, rfl⟩
  rw [hbs] at h
  have hbl : bs.length ≤ 140737488355328 := by
    by_cases hh : bs.length ≤ 140737488355328
    · exact hh
    · rw [if_neg hh] at h; cases h
  rw [if_pos hbl] at h
  obtain rfl := Option.some.inj h
  have HL := Aside0.mk hbl
  have HT0 := Aside0.mk hR
  have HBS0 := Aside0.mk hbs
  have HBL := Aside0.mk (show 1 + rest.length = bs.length by rw [← hbs]; simp; omega)
  have hn1 := HR1.out.2.1
  have hrest : rest.length < bs.length := by have := HBL.out; omega
  clear h hbl hR hbs hrest
  go_enter Tryd.func32, Tryd.ntmps32
  go_wp2_with (first | ((with_reducible refine gate_dst (N := 5) rfl ?_); refine Kd.event_run (w1 := w.alloc (.cells #[.pointer none, .slice none 0 0] 63)) (v := .pointer (some ⟨w.heap.size, 0, none⟩)) ?hg ?hr ?_; (case hg => rfl); (case hr => first | (go_simp; done) | (go_simp; rfl))) | (go_at_call 35; (refine (Bld.St.grow w 64 (by decide)).mono ?_); rintro e w3 ⟨rfl, hs⟩; obtain ⟨b, hb_⟩ : ∃ b, b = w.heap.size := ⟨_, rfl⟩; rw [← hb_] at hs; rw [← hb_]; have HS := Aside0.mk hs; have LB := Aside0.mk (show w.heap.size ≤ b by rw [hb_]; exact Nat.le_refl _); clear hs hb_) | (go_at_call 36; (refine (HS.out.byte _ ?s0 ?s1 ?s2).mono ?_); (case s0 => first | omega | (simp only [IntKind.wrap_u8]; omega)); (case s1 => first | omega | (simp only [IntKind.wrap_u8]; omega)); (case s2 => first | (simp; done) | (have := HL.out; have := HBL.out; simp at *; omega)); rintro e w4 ⟨rfl, hs⟩; have n0_ := Aside0.mk hs; clear HS hs; have HS := n0_; clear n0_))
  go_loopg [16] l1.length (fun kq v16 w' => ∃ x : Int, v16 = .int .i64 x ∧ Aside0 (0 ≤ x ∧ x + (kq : Int) = (l1.length : Int)) ∧ Aside0 (∃ acc rest, sha_Input.parts k (l1.drop x.toNat) = some rest ∧ acc ++ rest = bs ∧ Bld.St w b acc w'))
  case atStart => exact ⟨0, (by first | rfl | simp), ⟨by omega⟩, ⟨_, rest, HT0.out, HBS0.out, HS.out⟩⟩
  case round =>
    obtain ⟨x, rfl, HP, HE⟩ := hrel
    clear HS HBL HT0 HBS0
    obtain ⟨acc, rest1, hT, hE, hS⟩ := HE.out
    have HS := Aside0.mk hS
    have hp := HP.out
    cases gk with
    | zero =>
      have hc : decide (x < (l1.length : Int)) = false := decide_eq_false (by omega)
      have hd : l1.drop x.toNat = [] := List.drop_of_length_le (by omega)
      rw [hd] at hT
      have hr0 : rest1 = [] := (Option.some.inj hT).symm
      have HBS := Aside0.mk (show acc = bs by rw [← hE, hr0, List.append_nil])
      clear hT hE hS hd hr0 HE hp HP
      go_wp2_with (first | (go_at_call 39; have n0_ := Aside0.mk (HS.out.cast (show _ = bs from HBS.out)); clear HS; have HS := n0_; clear n0_; (refine HS.out.out.mono ?_); rintro e w7 ⟨rfl, hs⟩; have n0_ := Aside0.mk hs; clear HS hs; have HS := n0_; clear n0_))
      go_ret
      exact ⟨rfl, HS.out.below (Below.refl _ _) LB.out⟩
    | succ k1 =>
      have hc : decide (x < (l1.length : Int)) = true := decide_eq_true (by omega)
      have p0 : (0 ≤ x) = True := eq_true (by omega)
      have q0 : (x < (l1.length : Int)) = True := eq_true (by omega)
      have hw1 := sha_Input.wrap_step (n := l1.length) (x := x) hn1 (by omega) (by omega)
      rw [sha_Input.drop_rd l1 x (by omega) (by omega)] at hT
      unfold sha_Input.parts at hT
      obtain ⟨⟨n, ok⟩, hT1, hT⟩ := Option.bind_eq_some_iff.mp hT
      obtain ⟨rest2, hT2, hT⟩ := Option.bind_eq_some_iff.mp hT
      have hr1 : (n.toList ++ (rdOf ByteArray.empty l1 x).toList) ++ rest2 = rest1 := Option.some.inj hT
      have HT := Aside0.mk hT1
      have HT2 := Aside0.mk hT2
      have HE2 := Aside0.mk (show ((acc ++ n.toList) ++ (rdOf ByteArray.empty l1 x).toList) ++ rest2 = bs by rw [← hE, ← hr1]; simp only [List.append_assoc])
      have HBL := Aside0.mk (show acc.length + n.size + (rdOf ByteArray.empty l1 x).size + rest2.length = bs.length by rw [← HE2.out]; simp [sha_Input.size_toList]; omega)
      obtain ⟨ad, e4_, hx⟩ := Kd.at_string HR1.out x (by omega) (by omega)
      cases e4_
      have hx0 := ((HS.out.below (Below.refl _ _) LB.out).cell (World.block_lt_of_cell? w _ hx)).trans hx
      clear hT hT1 hT2 hE hS hr1 HE hx hp
      go_wp2_with (first | (go_at_call 37; (with_reducible refine (octets_Long.calls k _ n ok _ HT.out).mono ?_); rintro e w5 ⟨rfl, hb⟩; have n0_ := Aside0.mk (HS.out.later hb); clear HS hb; have HS := n0_; clear n0_) | (go_at_call 38; (refine (HS.out.str _ ?s2).mono ?_); (case s2 => have := HL.out; have := HBL.out; (try simp only [List.length_append, sha_Input.size_toList]); omega); rintro e w6 ⟨rfl, hs⟩; have n0_ := Aside0.mk hs; clear HS hs; have HS := n0_; clear n0_))
      go_roundg k1
      case measure => omega
      case rel => exact ⟨x + 1, (by first | rfl | (simp; done) | (simp [*]; done) | (refine congrArg (Value.int _) ?_; rw [hw1])), ⟨by have := HP.out; omega⟩, ⟨_, rest2, HT2.out, HE2.out, HS.out⟩⟩

/-! ### sha_Tag: function 29 -/
def sha_Tag.f (k : Nat) (a0 : Int) (l1 : List ByteArray) : Option (ByteArray) := (sha_Input.f k a0 l1).bind fun t156 => ((sha_Sum.f k t156).bind fun t157 => (some t157))
theorem sha_Tag.mono : ∀ a0 a1 k, LeO (sha_Tag.f k a0 a1) (sha_Tag.f (k + 1) a0 a1) := by
 intro a0 a1 k
 unfold sha_Tag.f
 repeat' first
  | (with_reducible exact sha_Input.mono _ _ _)
  | (with_reducible exact sha_Sum.mono _ _)
  | (with_reducible exact LeO.refl _)
  | (with_reducible exact LeO.none _)
  | (with_reducible refine LeO.ite ?_ ?_)
  | (with_reducible refine LeO.bind ?_ (fun _ => ?_))
  | exact sha_Input.mono _ _ _
  | exact sha_Sum.mono _ _
  | exact LeO.none _
  | refine LeO.ite ?_ ?_
  | refine LeO.bind ?_ (fun _ => ?_)
set_option maxHeartbeats 64000000 in
set_option maxRecDepth 100000 in
theorem sha_Tag.calls (k : Nat) (a0 : Int) (A1 : Option Addr) (c1 : Nat) (l1 : List ByteArray) (r : ByteArray) (w : World) (hr1 : Kd.C Kd.string w A1 l1.length l1) (hc1 : l1.length ≤ c1) (hrG : Kd.C (Kd.int .u32) w (some ⟨0, 0, none⟩) keysL.length keysL) (h : sha_Tag.f k a0 l1 = some r) :
 Calls Tryd.prog 29 #[.int .i64 a0, .slice A1 l1.length c1] w fun e w' => e = .returned (.string r) ∧ Below w.heap.size w w' := by
 have HR1 := Aside0.mk hr1
 have HC1 := Aside0.mk hc1
 clear hr1 hc1
 have HRG := Aside0.mk hrG
 clear hrG
 have HB := Aside0.mk (Below.refl w.heap.size w)
 have H : ((sha_Input.f k a0 l1).bind fun t156 => ((sha_Sum.f k t156).bind fun t157 => (some t157))) = some r := h
 clear h
 replace H := Option.bind_eq_some_iff.mp H
 obtain ⟨t156, A30, H⟩ := H
 replace H : ((sha_Sum.f k t156).bind fun t157 => (some t157)) = some r := H
 have A3 := Aside0.mk A30
 clear A30
 replace H := Option.bind_eq_some_iff.mp H
 obtain ⟨t157, A40, H⟩ := H
 replace H : (some t157) = some r := H
 have A4 := Aside0.mk A40
 clear A40
 obtain rfl := Option.some.inj H
 go_enter Tryd.func29, Tryd.ntmps29
 go_wp2_with (first | ((with_reducible refine gate_callee (f := 32) rfl ?_); refine goesL_ (some 7) rfl rfl Tryd.func32 (by kernel_rfl) rfl #[.int .i64 a0, .slice A1 l1.length c1] rfl (by (try simp only [List.map_toArray, List.map_cons, List.map_nil]); first | done | rfl | (simp only [List.length_drop, List.length_take]; rfl)) ?_; (with_reducible refine (sha_Input.calls k a0 _ _ l1 t156 _ ?side1 ?side2 A3.out).mono ?_); (case side1 => repeat (first | exact HR1.out | (with_reducible refine Kd.C_alloc ?_ _) | (with_reducible refine Kd.C_drewN ?_ _) | (with_reducible refine Kd.C_drew ?_))); (case side2 => exact HC1.out); rintro e w5 ⟨rfl, hb⟩; refine ⟨_, rfl, ?_⟩; have n0_ := Aside0.mk (below_step (by repeat (first | (with_reducible first | exact HB.out | apply below_alloc | apply pw_below_drewN | apply below_drew1) | exact HB.out)) hb); clear HB; have HB := n0_; clear n0_; (try clear hb); (try clear hb2); (try clear hk); (try clear hi)) | ((with_reducible refine gate_callee (f := 31) rfl ?_); refine goesL_ (some 8) rfl rfl Tryd.func31 (by kernel_rfl) rfl #[.string t156] rfl (by (try simp only [List.map_toArray, List.map_cons, List.map_nil]); first | done | rfl | (simp only [List.length_drop, List.length_take]; rfl)) ?_; (with_reducible refine (sha_Sum.calls k t156 t157 _ ?side1 A4.out).mono ?_); (case side1 => repeat (first | exact (Kd.C_below HRG.out HB.out) | (with_reducible refine Kd.C_alloc ?_ _) | (with_reducible refine Kd.C_drewN ?_ _) | (with_reducible refine Kd.C_drew ?_))); rintro e w6 ⟨rfl, hb⟩; refine ⟨_, rfl, ?_⟩; have n0_ := Aside0.mk (below_step (by repeat (first | (with_reducible first | exact HB.out | apply below_alloc | apply pw_below_drewN | apply below_drew1) | exact HB.out)) hb); clear HB; have HB := n0_; clear n0_; (try clear hb); (try clear hb2); (try clear hk); (try clear hi)))
 go_ret
 exact ⟨by first | rfl | (simp [errW_none, errW_some] <;> rfl) | (simp [*, errW_none, errW_some] <;> rfl), by repeat (first | (with_reducible first | exact HB.out | apply below_alloc | apply pw_below_drewN | apply below_drew1) | exact HB.out)⟩

/-! ### merkle_root: function 22 -/
def merkle_root.f : Nat → List ByteArray → Option (ByteArray)
 | 0, _ => none
 | k + 1, l0 => if (l0.length : Int) = 1 then (if 0 < (l0.length : Int) then (some (rdOf ByteArray.empty l0 0)) else (none)) else (if 0 ≤ (wrap64 ((l0.length : Int) / 2)) then (if (wrap64 ((l0.length : Int) / 2)) ≤ (l0.length : Int) then ((merkle_root.f k (l0.take ((wrap64 ((l0.length : Int) / 2)) : Int).toNat)).bind fun t160 => ((merkle_root.f k (l0.drop ((wrap64 ((l0.length : Int) / 2)) : Int).toNat)).bind fun t162 => ((sha_Tag.f k 4 (([t160, t162] : List ByteArray))).bind fun t166 => (some t166)))) else (none)) else (none))
theorem merkle_root.mono_l : ∀ k, (∀ y0, LeO (merkle_root.f k y0) (merkle_root.f (k + 1) y0))
 | 0 => fun _ r h => by simp [merkle_root.f] at h
 | k + 1 => by
  have ih0 := merkle_root.mono_l k
  ·intro y0
   unfold merkle_root.f
   repeat' first
   | (with_reducible exact ih0 _)
   | (with_reducible exact sha_Tag.mono _ _ _)
   | (with_reducible exact LeO.refl _)
   | (with_reducible exact LeO.none _)
   | (with_reducible refine LeO.ite ?_ ?_)
   | (with_reducible refine LeO.bind ?_ (fun _ => ?_))
   | exact ih0 _
   | exact sha_Tag.mono _ _ _
   | exact LeO.none _
   | refine LeO.ite ?_ ?_
   | refine LeO.bind ?_ (fun _ => ?_)
theorem merkle_root.mono : ∀ a0 k, LeO (merkle_root.f k a0) (merkle_root.f (k + 1) a0) := by
 intro a0 k
 have ih0 := merkle_root.mono_l k
 exact ih0 a0
def merkle_root.T3 : Bool × List (List Nat × List Nat) := (true, [([], []), ([], []), ([1], [1]), ([2], [2]), ([0, 3], [0, 3]), ([4], [4]), ([], []), ([], []), ([7], [7]), ([8], [8]), ([6, 9], [6, 9]), ([10, 5], [10]), ([5, 11], [5, 11]), ([12, 11], [12]), ([13, 13, 0, 1, 2, 3, 4, 5, 6, 7, 8, 9, 10, 11, 12, 13], [13])])
def merkle_root.B3 : List Nat := [0, 0, 2, 6, 15, 31, 0, 0, 128, 384, 960, 2047, 4095, 8191, 16383]
theorem merkle_root.tab3 : rtab .any (opsOf Tryd.f22 3) = merkle_root.T3 := by kernel_rfl
theorem merkle_root.bits3 : waitsOk merkle_root.T3.2 merkle_root.B3 = true := by kernel_rfl
set_option maxHeartbeats 64000000 in
set_option maxRecDepth 100000 in
theorem merkle_root.calls (k : Nat) : ∀ (A0 : Option Addr) (c0 : Nat) (l0 : List ByteArray) (r : ByteArray) (w : World) (hr0 : Kd.C Kd.string w A0 l0.length l0) (hc0 : l0.length ≤ c0) (hrG : Kd.C (Kd.int .u32) w (some ⟨0, 0, none⟩) keysL.length keysL) (h : merkle_root.f k l0 = some r),
 Calls Tryd.prog 22 #[.slice A0 l0.length c0] w fun e w' => e = .returned (.string r) ∧ Below w.heap.size w w' := by
 induction k using Nat.strongRecOn with
 | _ k ih =>
 intro A0 c0 l0 r w hr0 hc0 hrG h
 cases k with
 | zero => exact absurd h (by simp [merkle_root.f])
 | succ k =>
 simp only [merkle_root.f] at h
 have HR0 := Aside0.mk hr0
 have HC0 := Aside0.mk hc0
 clear hr0 hc0
 have HRG := Aside0.mk hrG
 clear hrG
 have HB := Aside0.mk (Below.refl w.heap.size w)
 have H : (if (l0.length : Int) = 1 then (if 0 < (l0.length : Int) then (some (rdOf ByteArray.empty l0 0)) else (none)) else (if 0 ≤ (wrap64 ((l0.length : Int) / 2)) then (if (wrap64 ((l0.length : Int) / 2)) ≤ (l0.length : Int) then ((merkle_root.f k (l0.take ((wrap64 ((l0.length : Int) / 2)) : Int).toNat)).bind fun t160 => ((merkle_root.f k (l0.drop ((wrap64 ((l0.length : Int) / 2)) : Int).toNat)).bind fun t162 => ((sha_Tag.f k 4 (([t160, t162] : List ByteArray))).bind fun t166 => (some t166)))) else (none)) else (none))) = some r := h
 clear h
 by_cases c2 : (l0.length : Int) = 1
 ·rw [if_pos c2] at H
  have c2b0 : ((l0.length : Int) == 1) = true := beq_iff_eq.mpr c2
  have c2b1 : ((l0.length : Int) != 1) = false := bne_eq_false_iff_eq.mpr c2
  clear c2
  by_cases c3 : 0 < (l0.length : Int)
  rotate_left
  ·rw [if_neg c3] at H
   exact absurd H (by simp)
  rw [if_pos c3] at H
  have c3b0 : decide (0 < (l0.length : Int)) = true := decide_eq_true c3
  have c3b1 : decide (0 < l0.length) = true := decide_eq_true (by omega)
  clear c3
  obtain rfl := Option.some.inj H
  have p158 : 0 ≤ (0 : Int) := (by omega)
  have q158 : 0 < (l0.length : Int) := of_decide_eq_true (by first | (with_reducible assumption) | assumption)
  obtain ⟨ad158, e158, hx158_0⟩ := Kd.at_string HR0.out 0 p158 q158
  cases e158
  have qi158 : (0 < l0.length) = True := eq_true (by omega)
  (try rw [show ((0 : Int)).toNat = 0 from rfl] at hx158_0)
  (try rw [Addr.add_zero'] at hx158_0)
  replace p158 := eq_true p158
  replace q158 := eq_true q158
  go_enter Tryd.func22, Tryd.ntmps22
  go_wp2
  go_ret
  exact ⟨by first | rfl | (simp [errW_none, errW_some] <;> rfl) | (simp [*, errW_none, errW_some] <;> rfl), by repeat (first | (with_reducible first | exact HB.out | apply below_alloc | apply pw_below_drewN | apply below_drew1) | exact HB.out)⟩
 ·rw [if_neg c2] at H
  have c2b0 : ((l0.length : Int) == 1) = false := beq_eq_false_iff_ne.mpr c2
  have c2b1 : ((l0.length : Int) != 1) = true := bne_iff_ne.mpr c2
  obtain ⟨ji4, hji4⟩ : ∃ j_ : Int, (wrap64 ((l0.length : Int) / 2)) = j_ := ⟨_, rfl⟩
  replace H : (if 0 ≤ (ji4) then (if (ji4) ≤ (l0.length : Int) then ((merkle_root.f k (l0.take ((ji4) : Int).toNat)).bind fun t160 => ((merkle_root.f k (l0.drop ((ji4) : Int).toNat)).bind fun t162 => ((sha_Tag.f k 4 (([t160, t162] : List ByteArray))).bind fun t166 => (some t166)))) else (none)) else (none)) = some r := by first | (rw [hji4] at H; exact H) | (simp only [hji4] at H ⊢; exact H)
  have hji4w : (IntKind.i64.wrap ((l0.length : Int) / 2)) = ji4 := (i64_w _).trans hji4
  by_cases c5 : 0 ≤ (ji4)
  rotate_left
  ·rw [if_neg c5] at H
   exact absurd H (by simp)
  rw [if_pos c5] at H
  have c5b0 := eq_true c5
  have c5b1 : decide (0 ≤ (ji4)) = true := decide_eq_true c5
  clear c5
  by_cases c6 : (ji4) ≤ (l0.length : Int)
  rotate_left
  ·rw [if_neg c6] at H
   exact absurd H (by simp)
  rw [if_pos c6] at H
  have c6b0 := eq_true c6
  have c6b1 : decide ((ji4) ≤ (l0.length : Int)) = true := decide_eq_true c6
  clear c6
  replace H := Option.bind_eq_some_iff.mp H
  obtain ⟨t160, A70, H⟩ := H
  replace H : ((merkle_root.f k (l0.drop ((ji4) : Int).toNat)).bind fun t162 => ((sha_Tag.f k 4 (([t160, t162] : List ByteArray))).bind fun t166 => (some t166))) = some r := H
  have A7 := Aside0.mk A70
  clear A70
  have c8b0 := eq_true (of_decide_eq_true (by first | (with_reducible assumption) | assumption) : 0 ≤ (ji4))
  have c9b0 := eq_true (of_decide_eq_true (by first | (with_reducible assumption) | assumption) : (ji4) ≤ (l0.length : Int))
  replace H := Option.bind_eq_some_iff.mp H
  obtain ⟨t162, A100, H⟩ := H
  replace H : ((sha_Tag.f k 4 (([t160, t162] : List ByteArray))).bind fun t166 => (some t166)) = some r := H
  have A10 := Aside0.mk A100
  clear A100
  obtain ⟨y163, hy163⟩ : ∃ y_ : List ByteArray, y_ = (([t160, t162] : List ByteArray)) := ⟨_, rfl⟩
  replace H : ((sha_Tag.f k 4 y163).bind fun t166 => (some t166)) = some r := by first | (rw [hy163]; with_reducible exact H) | (have H2_ := (Option.bind_some _ _).symm.trans H; rw [hy163]; with_reducible exact H2_) | (have H2_ := (Option.bind_some _ _).symm.trans H; with_reducible exact H2_) | with_reducible exact H | (rw [hy163]; exact H) | exact H
  have Ny163 := Aside0.mk hy163
  clear hy163
  replace H := Option.bind_eq_some_iff.mp H
  obtain ⟨t166, A110, H⟩ := H
  replace H : (some t166) = some r := H
  have A11 := Aside0.mk A110
  clear A110
  obtain rfl := Option.some.inj H
  go_enter Tryd.func22, Tryd.ntmps22
  try go_wp2
  have n0_ := Aside0.mk (below_drew1 HB.out)
  clear HB
  have HB := n0_
  clear n0_
  obtain ⟨i013, hi013, _, hsz13, _⟩ := info_parts info9
  obtain ⟨hcut13, hA13, hC13⟩ := print_take_of (P := Tryd.prog) Value.string (⟨#[]⟩ : ByteArray) 22 9 .i64 Tryd.underlying22 hi013 hsz13 A0 c0 l0 (ji4) (of_decide_eq_true (by first | (with_reducible assumption) | assumption)) (of_decide_eq_true (by first | (with_reducible assumption) | assumption)) HC0.out
  have HR159 := Aside0.mk (Kd.C_of_reads (h1 := fun _ => rfl) (hA13 _ (Kd.reads_of_C HR0.out)))
  have HC159 := Aside0.mk hC13
  clear hA13 hC13 hi013 hsz13
  obtain ⟨i014, hi014, _, hsz14, _⟩ := info_parts info9
  obtain ⟨A14, hcut14, hA14, hC14⟩ := print_drop_of (P := Tryd.prog) Value.string (⟨#[]⟩ : ByteArray) 22 9 .i64 Tryd.underlying22 hi014 hsz14 A0 c0 l0 (ji4) (of_decide_eq_true (by first | (with_reducible assumption) | assumption)) (of_decide_eq_true (by first | (with_reducible assumption) | assumption)) HC0.out
  have HR161 := Aside0.mk (Kd.C_of_reads (h1 := fun _ => rfl) (hA14 _ (Kd.reads_of_C HR0.out)))
  have HC161 := Aside0.mk hC14
  clear hA14 hC14 hi014 hsz14
  refine start_ (n := 15) (S := fun w' => True) (ds := []) #[false, false, false, false, false, false, false, false, false, false, false, false, false, false, false] (by kernel_rfl) rfl rfl trivial (fun hHeld => ?_); refine with_tabW merkle_root.tab3 merkle_root.bits3 (fun HT_ HW_ => ?_)
  generalize w.drew = w12 at HB HR159 HR161 hHeld ⊢
  refine pure_ (i := 0) (N := some 9) (v := ?_) (a' := ?_) #[true, false, false, false, false, false, false, false, false, false, false, false, false, false, false] rfl rfl (any_of HT_.out (by kernel_rfl)) (fun _ _ _ h => h) (Or.inl ⟨by rfl, ?_⟩) ?_ ?_
  rotate_left
  ·intro w'
   go_simp
   with_reducible rfl
  rotate_left
  ·simp only [pr_]
   rfl
  refine pure_ (i := 1) (N := some 10) (v := ?_) (a' := ?_) #[true, true, false, false, false, false, false, false, false, false, false, false, false, false, false] rfl rfl (any_of HT_.out (by kernel_rfl)) (fun _ _ _ h => h) (Or.inl ⟨by rfl, ?_⟩) ?_ ?_
  rotate_left
  ·intro w'
   go_simp
   with_reducible rfl
  rotate_left
  ·simp only [pr_]
   rfl
  refine pure_ (i := 2) (N := some 11) (v := ?_) (a' := ?_) #[true, true, true, false, false, false, false, false, false, false, false, false, false, false, false] rfl rfl (any_of HT_.out (by kernel_rfl)) (fun _ _ _ h => h) (Or.inl ⟨by rfl, ?_⟩) ?_ ?_
  rotate_left
  ·intro w'
   go_simp
   with_reducible rfl
  rotate_left
  ·simp only [pr_]
   rfl
  refine pure_ (i := 3) (N := some 12) (v := ?_) (a' := ?_) #[true, true, true, true, false, false, false, false, false, false, false, false, false, false, false] rfl rfl (any_of HT_.out (by kernel_rfl)) (fun _ _ _ h => h) (Or.inl ⟨by rfl, ?_⟩) ?_ ?_
  rotate_left
  ·intro w'
   go_simp
   with_reducible rfl
  rotate_left
  ·simp only [pr_]
   rfl
  refine pure_ (i := 4) (N := some 13) (v := ?_) (a' := ?_) #[true, true, true, true, true, false, false, false, false, false, false, false, false, false, false] rfl rfl (any_of HT_.out (by kernel_rfl)) (fun _ _ _ h => h) (Or.inl ⟨by rfl, ?_⟩) ?_ ?_
  rotate_left
  ·intro w'
   go_simp
   with_reducible rfl
  rotate_left
  ·simp only [pr_]
   rfl
  refine pure_ (i := 6) (N := some 15) (v := ?_) (a' := ?_) #[true, true, true, true, true, false, true, false, false, false, false, false, false, false, false] rfl rfl (any_of HT_.out (by kernel_rfl)) (fun _ _ _ h => h) (Or.inl ⟨by rfl, ?_⟩) ?_ ?_
  rotate_left
  ·intro w'
   go_simp
   with_reducible rfl
  rotate_left
  ·simp only [pr_]
   rfl
  refine pure_ (i := 7) (N := some 16) (v := ?_) (a' := ?_) #[true, true, true, true, true, false, true, true, false, false, false, false, false, false, false] rfl rfl (any_of HT_.out (by kernel_rfl)) (fun _ _ _ h => h) (Or.inl ⟨by rfl, ?_⟩) ?_ ?_
  rotate_left
  ·intro w'
   go_simp
   with_reducible rfl
  rotate_left
  ·simp only [pr_]
   rfl
  refine pure_ (i := 8) (N := some 17) (v := ?_) (a' := ?_) #[true, true, true, true, true, false, true, true, true, false, false, false, false, false, false] rfl rfl (any_of HT_.out (by kernel_rfl)) (fun _ _ _ h => h) (Or.inl ⟨by rfl, ?_⟩) ?_ ?_
  rotate_left
  ·intro w'
   go_simp
   with_reducible rfl
  rotate_left
  ·simp only [pr_]
   rfl
  refine pure_ (i := 9) (N := some 18) (v := ?_) (a' := ?_) #[true, true, true, true, true, false, true, true, true, true, false, false, false, false, false] rfl rfl (any_of HT_.out (by kernel_rfl)) (fun _ _ _ h => h) (Or.inl ⟨by rfl, ?_⟩) ?_ ?_
  rotate_left
  ·intro w'
   go_simp
   with_reducible rfl
  rotate_left
  ·simp only [pr_]
   rfl
  refine pure_ (i := 10) (N := some 19) (v := ?_) (a' := ?_) #[true, true, true, true, true, false, true, true, true, true, true, false, false, false, false] rfl rfl (any_of HT_.out (by kernel_rfl)) (fun _ _ _ h => h) (Or.inl ⟨by rfl, ?_⟩) ?_ ?_
  rotate_left
  ·intro w'
   go_simp
   with_reducible rfl
  rotate_left
  ·simp only [pr_]
   rfl
  refine one_ (i := 5) (N := some 14) #[true, true, true, true, true, true, true, true, true, true, true, false, false, false, false] rfl rfl (one_of HT_.out (by kernel_rfl)) (by decide) (fun K hK => ?_)
  refine goes_ Tryd.func22 (by kernel_rfl) rfl #[.slice A0 (l0.take ((ji4) : Int).toNat).length c0] (by rfl) rfl rfl (by (try simp only [List.map_toArray, List.map_cons, List.map_nil]); first | done | (rw [show (l0.take ((ji4) : Int).toNat).length = (ji4).toNat from (by rw [List.length_take]; have h_ : ((ji4) : Int) ≤ (l0.length : Int) := of_decide_eq_true (by first | (with_reducible assumption) | assumption); omega)] <;> rfl) | (simp only [hji4]; rfl) | rfl | (simp only [List.length_drop, List.length_take]; rfl)) ?_
  with_reducible refine (ih k (by omega) _ _ (l0.take ((ji4) : Int).toNat) t160 _ ?side1 ?side2 ?side3 A7.out).mono ?_
  (case side1 => repeat (first | exact (Kd.C_below HR159.out HB.out) | (with_reducible refine Kd.C_alloc ?_ _) | (with_reducible refine Kd.C_drewN ?_ _) | (with_reducible refine Kd.C_drew ?_)))
  (case side2 => exact HC159.out)
  (case side3 => repeat (first | exact (Kd.C_below HRG.out HB.out) | (with_reducible refine Kd.C_alloc ?_ _) | (with_reducible refine Kd.C_drewN ?_ _) | (with_reducible refine Kd.C_drew ?_)))
  rintro e w15 ⟨rfl, hb⟩
  refine ⟨_, rfl, ?_⟩
  have n0_ := Aside0.mk (below_step (by repeat (first | (with_reducible first | exact HB.out | apply below_alloc | apply pw_below_drewN | apply below_drew1) | exact HB.out)) hb)
  clear HB
  have HB := n0_
  clear n0_
  (try clear hb)
  (try clear hb2)
  (try clear hk)
  (try clear hi)
  refine hK.out _ _ trivial (fun hHeld => ?_)
  clear hK K
  refine norm_ (a' := ?_) ?_ ?_
  rotate_left
  ·show Act.put _ (some 14) _ = _
   simp only [pr_]
   rfl
  refine one_ (i := 11) (N := some 20) #[true, true, true, true, true, true, true, true, true, true, true, true, false, false, false] rfl rfl (one_of HT_.out (by kernel_rfl)) (by decide) (fun K hK => ?_)
  refine goes_ Tryd.func22 (by kernel_rfl) rfl #[.slice A14 (l0.drop ((ji4) : Int).toNat).length (c0 - (ji4).toNat)] (by rfl) rfl rfl (by (try simp only [List.map_toArray, List.map_cons, List.map_nil]); first | done | (rw [show (l0.drop ((ji4) : Int).toNat).length = (l0.length - (ji4).toNat) from List.length_drop] <;> rfl) | (simp only [hji4]; rfl) | rfl | (simp only [List.length_drop, List.length_take]; rfl)) ?_
  with_reducible refine (ih k (by omega) _ _ (l0.drop ((ji4) : Int).toNat) t162 _ ?side1 ?side2 ?side3 A10.out).mono ?_
  (case side1 => repeat (first | exact (Kd.C_below HR161.out HB.out) | (with_reducible refine Kd.C_alloc ?_ _) | (with_reducible refine Kd.C_drewN ?_ _) | (with_reducible refine Kd.C_drew ?_)))
  (case side2 => exact HC161.out)
  (case side3 => repeat (first | exact (Kd.C_below HRG.out HB.out) | (with_reducible refine Kd.C_alloc ?_ _) | (with_reducible refine Kd.C_drewN ?_ _) | (with_reducible refine Kd.C_drew ?_)))
  rintro e w16 ⟨rfl, hb⟩
  refine ⟨_, rfl, ?_⟩
  have n0_ := Aside0.mk (below_step (by repeat (first | (with_reducible first | exact HB.out | apply below_alloc | apply pw_below_drewN | apply below_drew1) | exact HB.out)) hb)
  clear HB
  have HB := n0_
  clear n0_
  (try clear hb)
  (try clear hb2)
  (try clear hk)
  (try clear hi)
  refine hK.out _ _ trivial (fun hHeld => ?_)
  clear hK K
  refine norm_ (a' := ?_) ?_ ?_
  rotate_left
  ·show Act.put _ (some 20) _ = _
   simp only [pr_]
   rfl
  refine one_ (i := 12) (N := some 21) #[true, true, true, true, true, true, true, true, true, true, true, true, true, false, false] rfl rfl (one_of HT_.out (by kernel_rfl)) (by decide) (fun K hK => ?_)
  refine Kd.R_lit_step Kd.string _ 9 ?hg (N := 21) ?hd (xs := ([t160, t162] : List ByteArray)) (inner := [.string t160, .string t162]) (ok := fun _ => True) (okp := fun _ => True) ?hr ?hp (fun _ hk => hk) trivial (Below.refl _ _) (Nat.le_refl _) (by simp) ?_; (case hd => rfl); (case hg => rfl); (case hr => first | (go_simp; done) | (go_simp; rfl)); (case hp => exact (Reps.one (show Kd.M Kd.string _ _ _ t160 [.string t160] from rfl) (Reps.one (show Kd.M Kd.string _ _ _ t162 [.string t162] from rfl) (Reps.none _ _))))
  intro v164 w17 ho18 hb hg_ hnew_
  clear hg_ hnew_
  (first | rw [← Ny163.out] at ho18 | (simp only [Int.reduceToNat] at ho18; rw [← Ny163.out] at ho18))
  have n0_ := Aside0.mk (Kd.R_lower ho18 (below_size (by repeat (first | (with_reducible first | exact HB.out | apply below_alloc | apply pw_below_drewN | apply below_drew1) | exact HB.out))))
  have n1_ := Aside0.mk (below_step (by repeat (first | (with_reducible first | exact HB.out | apply below_alloc | apply pw_below_drewN | apply below_drew1) | exact HB.out)) hb)
  clear HB
  have HO165 := n0_
  have HB := n1_
  clear n0_ n1_
  clear hb ho18
  obtain ⟨Ao19, co19, eo19⟩ := Kd.R_slice HO165.out
  (first | subst eo19 | (injection eo19 with f1_ f2_ f3_; have f4_ := f1_.symm; have f5_ := f3_.symm; clear f1_ f2_ f3_; subst f4_; subst f5_))
  refine hK.out _ _ trivial (fun hHeld => ?_)
  clear hK K
  refine norm_ (a' := ?_) ?_ ?_
  rotate_left
  ·show Act.put _ (some 21) _ = _
   simp only [pr_]
   rfl
  refine one_ (i := 13) (N := some 22) #[true, true, true, true, true, true, true, true, true, true, true, true, true, true, false] rfl rfl (one_of HT_.out (by kernel_rfl)) (by decide) (fun K hK => ?_)
  refine goes_ Tryd.func29 (by kernel_rfl) rfl #[.int .i64 4, .slice Ao19 y163.length co19] (by rfl) rfl rfl (by (try simp only [List.map_toArray, List.map_cons, List.map_nil]); first | done | rfl | (simp only [List.length_drop, List.length_take]; rfl)) ?_
  with_reducible refine (sha_Tag.calls k 4 _ _ y163 t166 _ ?side1 ?side2 ?side3 A11.out).mono ?_
  (case side1 => repeat (first | exact (Kd.R_reads' HO165.out).2.2 | (with_reducible refine Kd.C_alloc ?_ _) | (with_reducible refine Kd.C_drewN ?_ _) | (with_reducible refine Kd.C_drew ?_)))
  (case side2 => exact (Kd.R_reads' HO165.out).2.1)
  (case side3 => repeat (first | exact (Kd.C_below HRG.out HB.out) | (with_reducible refine Kd.C_alloc ?_ _) | (with_reducible refine Kd.C_drewN ?_ _) | (with_reducible refine Kd.C_drew ?_)))
  rintro e w20 ⟨rfl, hb⟩
  refine ⟨_, rfl, ?_⟩
  have n0_ := Aside0.mk (Kd.R_below (by (with_reducible repeat (first | apply Kd.R_alloc | apply Kd.R_drewN | apply Kd.R_drew)); exact HO165.out) hb)
  have n1_ := Aside0.mk (below_step (by repeat (first | (with_reducible first | exact HB.out | apply below_alloc | apply pw_below_drewN | apply below_drew1) | exact HB.out)) hb)
  clear HO165
  clear HB
  have HO165 := n0_
  have HB := n1_
  clear n0_ n1_
  (try clear hb)
  (try clear hb2)
  (try clear hk)
  (try clear hi)
  refine hK.out _ _ trivial (fun hHeld => ?_)
  clear hK K
  refine norm_ (a' := ?_) ?_ ?_
  rotate_left
  ·show Act.put _ (some 22) _ = _
   simp only [pr_]
   rfl
  refine pure_ (i := 14) (N := some 2) (v := ?_) (a' := ?_) #[true, true, true, true, true, true, true, true, true, true, true, true, true, true, true] rfl rfl (any_of HT_.out (by kernel_rfl)) (fun _ _ _ h => h) (Or.inl ⟨by rfl, ?_⟩) ?_ ?_
  rotate_left
  ·intro w'
   go_simp
   with_reducible rfl
  rotate_left
  ·simp only [pr_]
   rfl
  refine done_ (done_of HT_.out (by kernel_rfl)) ?_
  try go_wp2
  go_ret
  exact ⟨by first | rfl | (simp [errW_none, errW_some] <;> rfl) | (simp only [← hji4]; first | rfl | (simp [errW_none, errW_some] <;> rfl)) | (simp [*, errW_none, errW_some] <;> rfl), by repeat (first | (with_reducible first | exact HB.out | apply below_alloc | apply pw_below_drewN | apply below_drew1) | exact HB.out)⟩

/-! ### merkle_Root: function 11 -/
def merkle_Root.f (k : Nat) (l0 : List ByteArray) : Option (ByteArray × Bool) := (merkle_leaves.f (l0.length : Int)).bind fun t167 => (if t167 = true then ((merkle_root.f k l0).bind fun t168 => (some (t168, true))) else (some ((⟨#[]⟩ : ByteArray), false)))
theorem merkle_Root.mono : ∀ a0 k, LeO (merkle_Root.f k a0) (merkle_Root.f (k + 1) a0) := by
 intro a0 k
 unfold merkle_Root.f
 repeat' first
  | (with_reducible exact merkle_root.mono _ _)
  | (with_reducible exact LeO.refl _)
  | (with_reducible exact LeO.none _)
  | (with_reducible refine LeO.ite ?_ ?_)
  | (with_reducible refine LeO.bind ?_ (fun _ => ?_))
  | exact merkle_root.mono _ _
  | exact LeO.none _
  | refine LeO.ite ?_ ?_
  | refine LeO.bind ?_ (fun _ => ?_)
set_option maxHeartbeats 64000000 in
set_option maxRecDepth 100000 in
theorem merkle_Root.calls (k : Nat) (A0 : Option Addr) (c0 : Nat) (l0 : List ByteArray) (r1 : ByteArray) (r2 : Bool) (w : World) (hr0 : Kd.C Kd.string w A0 l0.length l0) (hc0 : l0.length ≤ c0) (hrG : Kd.C (Kd.int .u32) w (some ⟨0, 0, none⟩) keysL.length keysL) (h : merkle_Root.f k l0 = some (r1, r2)) :
 Calls Tryd.prog 11 #[.slice A0 l0.length c0] w fun e w' => e = .returned (.tuple #[.string r1, .bool r2]) ∧ Below w.heap.size w w' := by
 have HR0 := Aside0.mk hr0
 have HC0 := Aside0.mk hc0
 clear hr0 hc0
 have HRG := Aside0.mk hrG
 clear hrG
 have HB := Aside0.mk (Below.refl w.heap.size w)
 have H : ((merkle_leaves.f (l0.length : Int)).bind fun t167 => (if t167 = true then ((merkle_root.f k l0).bind fun t168 => (some (t168, true))) else (some ((⟨#[]⟩ : ByteArray), false)))) = some (r1, r2) := h
 clear h
 replace H := Option.bind_eq_some_iff.mp H
 obtain ⟨t167, A20, H⟩ := H
 replace H : (if t167 = true then ((merkle_root.f k l0).bind fun t168 => (some (t168, true))) else (some ((⟨#[]⟩ : ByteArray), false))) = some (r1, r2) := H
 have A2 := Aside0.mk A20
 clear A20
 by_cases c3 : t167 = true
 ·subst c3
  have H1 : ((merkle_root.f k l0).bind fun t168 => (some (t168, true))) = some (r1, r2) := by rw [if_pos rfl] at H; exact H
  clear H
  have H := H1
  clear H1
  replace H := Option.bind_eq_some_iff.mp H
  obtain ⟨t168, A40, H⟩ := H
  replace H : (some (t168, true)) = some (r1, r2) := H
  have A4 := Aside0.mk A40
  clear A40
  simp only [Option.some.injEq, Prod.mk.injEq] at H
  obtain ⟨rfl, rfl⟩ := H
  go_enter Tryd.func11, Tryd.ntmps11
  go_wp2_with (first | ((with_reducible refine gate_callee (f := 21) rfl ?_); refine goesL_ (some 6) rfl rfl Tryd.func21 (by kernel_rfl) rfl #[.int .i64 (l0.length : Int)] rfl (by (try simp only [List.map_toArray, List.map_cons, List.map_nil]); first | done | rfl | (simp only [List.length_drop, List.length_take]; rfl)) ?_; (with_reducible refine (merkle_leaves.calls (l0.length : Int) true _ A2.out).mono ?_); rintro e w' ⟨rfl, ⟨nd, rfl⟩⟩; refine ⟨_, rfl, ?_⟩) | ((with_reducible refine gate_callee (f := 22) rfl ?_); refine goesL_ (some 9) rfl rfl Tryd.func22 (by kernel_rfl) rfl #[.slice A0 l0.length c0] rfl (by (try simp only [List.map_toArray, List.map_cons, List.map_nil]); first | done | rfl | (simp only [List.length_drop, List.length_take]; rfl)) ?_; (with_reducible refine (merkle_root.calls k _ _ l0 t168 _ ?side1 ?side2 ?side3 A4.out).mono ?_); (case side1 => repeat (first | exact HR0.out | (with_reducible refine Kd.C_alloc ?_ _) | (with_reducible refine Kd.C_drewN ?_ _) | (with_reducible refine Kd.C_drew ?_))); (case side2 => exact HC0.out); (case side3 => repeat (first | exact HRG.out | (with_reducible refine Kd.C_alloc ?_ _) | (with_reducible refine Kd.C_drewN ?_ _) | (with_reducible refine Kd.C_drew ?_))); rintro e w5 ⟨rfl, hb⟩; refine ⟨_, rfl, ?_⟩; have n0_ := Aside0.mk (below_step (by repeat (first | (with_reducible first | exact HB.out | apply below_alloc | apply pw_below_drewN | apply below_drew1) | exact HB.out)) hb); clear HB; have HB := n0_; clear n0_; (try clear hb); (try clear hb2); (try clear hk); (try clear hi)))
  go_ret2
  exact ⟨by first | rfl | (simp [errW_none, errW_some] <;> rfl) | (simp [*, errW_none, errW_some] <;> rfl), by repeat (first | (with_reducible first | exact HB.out | apply below_alloc | apply pw_below_drewN | apply below_drew1) | exact HB.out)⟩
 ·replace c3 := Bool.eq_false_iff.mpr c3
  subst c3
  have H1 : (some ((⟨#[]⟩ : ByteArray), false)) = some (r1, r2) := by rw [if_neg (show ¬ (false = true) by decide)] at H; exact H
  clear H
  have H := H1
  clear H1
  simp only [Option.some.injEq, Prod.mk.injEq] at H
  obtain ⟨rfl, rfl⟩ := H
  go_enter Tryd.func11, Tryd.ntmps11
  go_wp2_with (first | ((with_reducible refine gate_callee (f := 21) rfl ?_); refine goesL_ (some 6) rfl rfl Tryd.func21 (by kernel_rfl) rfl #[.int .i64 (l0.length : Int)] rfl (by (try simp only [List.map_toArray, List.map_cons, List.map_nil]); first | done | rfl | (simp only [List.length_drop, List.length_take]; rfl)) ?_; (with_reducible refine (merkle_leaves.calls (l0.length : Int) false _ A2.out).mono ?_); rintro e w' ⟨rfl, ⟨nd, rfl⟩⟩; refine ⟨_, rfl, ?_⟩))
  go_ret2
  exact ⟨by first | rfl | (simp [errW_none, errW_some] <;> rfl) | (simp [*, errW_none, errW_some] <;> rfl), by repeat (first | (with_reducible first | exact HB.out | apply below_alloc | apply pw_below_drewN | apply below_drew1) | exact HB.out)⟩

end Go.Proofs.YtmnppogihmhdgaaDoor.PP
