-- WRITTEN BY a program of this work (wip/ownprint.py), for this seat
import Derived.Test.YtmedpnclkbkiiaaDoorPPx0
namespace Go.Proofs.YtmedpnclkbkiiaaDoor.PP
open Go.RowKit Go.Proofs.YtmedpnclkbkiiaaDoorW.PrintWords Go.Proofs.YtmedpnclkbkiiaaDoorW.PrintLast Go.Proofs.YtmedpnclkbkiiaaDoorW.PrintMore
attribute [local go_sem] max2_int min2_int max_two min_two max_three min_three max_four min_four   -- for this text's walks alone
set_option linter.unusedVariables false
set_option linter.unusedSimpArgs false

/-! ### octets_laid: function 70 -/
mutual
def octets_laid.j0 : Nat → Int → Int → Bool → Option (ByteArray × Bool)
 | 0, _, _, _ => none
 | k + 1, x0, x1, x16 => if x16 = true then (some ((⟨#[]⟩ : ByteArray), false)) else (if 0 ≤ x1 then (if (x1 : Int).toNat ≤ 281474976710656 then ((some (List.replicate (x1 : Int).toNat 0 : List Int)).bind fun y101 => (octets_laid.l0 k x0 x1 y101 (y101.length : Int) 0)) else (none)) else (none))
def octets_laid.l0 : Nat → Int → Int → List Int → Int → Int → Option (ByteArray × Bool)
 | 0, _, _, _, _, _ => none
 | k + 1, x0, x1, x6, x20, x21 => if x21 < x20 then (if 0 ≤ (wrap64 (8 * x21)) then (if 0 ≤ (wrap64 ((wrap64 (x1 - 1)) - x21)) then (if (wrap64 ((wrap64 (x1 - 1)) - x21)) < (x6.length : Int) then (octets_laid.l0 k x0 x1 (x6.set ((wrap64 ((wrap64 (x1 - 1)) - x21)) : Int).toNat ((shr .i64 x0 (wrap64 (8 * x21))) % 256)) x20 (wrap64 (x21 + 1))) else (none)) else (none)) else (none)) else (some (strOfNums x6, true))
end
def octets_laid.f (k : Nat) (a0 : Int) (a1 : Int) : Option (ByteArray × Bool) := if a0 < 0 then (octets_laid.j0 k a0 a1 true) else (if 0 ≤ (wrap64 (8 * a1)) then (octets_laid.j0 k a0 a1 ((shr .i64 a0 (wrap64 (8 * a1))) != 0)) else (none))
theorem octets_laid.mono_l : ∀ k, (∀ y0 y1 y2, LeO (octets_laid.j0 k y0 y1 y2) (octets_laid.j0 (k + 1) y0 y1 y2)) ∧ (∀ y0 y1 y2 y3 y4, LeO (octets_laid.l0 k y0 y1 y2 y3 y4) (octets_laid.l0 (k + 1) y0 y1 y2 y3 y4))
 | 0 => ⟨fun _ _ _ r h => by simp [octets_laid.j0] at h, fun _ _ _ _ _ r h => by simp [octets_laid.l0] at h⟩
 | k + 1 => by
  obtain ⟨ih0, ih1⟩ := octets_laid.mono_l k
  refine ⟨?_, ?_⟩
  ·intro y0 y1 y2
   unfold octets_laid.j0
   repeat' first
   | (with_reducible exact ih0 _ _ _)
   | (with_reducible exact ih1 _ _ _ _ _)
   | (with_reducible exact LeO.refl _)
   | (with_reducible exact LeO.none _)
   | (with_reducible refine LeO.ite ?_ ?_)
   | (with_reducible refine LeO.bind ?_ (fun _ => ?_))
   | exact ih0 _ _ _
   | exact ih1 _ _ _ _ _
   | exact LeO.none _
   | refine LeO.ite ?_ ?_
   | refine LeO.bind ?_ (fun _ => ?_)
  intro y0 y1 y2 y3 y4
  unfold octets_laid.l0
  repeat' first
  | (with_reducible exact ih0 _ _ _)
  | (with_reducible exact ih1 _ _ _ _ _)
  | (with_reducible exact LeO.refl _)
  | (with_reducible exact LeO.none _)
  | (with_reducible refine LeO.ite ?_ ?_)
  | (with_reducible refine LeO.bind ?_ (fun _ => ?_))
  | exact ih0 _ _ _
  | exact ih1 _ _ _ _ _
  | exact LeO.none _
  | refine LeO.ite ?_ ?_
  | refine LeO.bind ?_ (fun _ => ?_)
theorem octets_laid.mono : ∀ a0 a1 k, LeO (octets_laid.f k a0 a1) (octets_laid.f (k + 1) a0 a1) := by
 intro a0 a1 k
 obtain ⟨ih0, ih1⟩ := octets_laid.mono_l k
 unfold octets_laid.f
 repeat' first
  | (with_reducible exact ih0 _ _ _)
  | (with_reducible exact ih1 _ _ _ _ _)
  | (with_reducible exact LeO.refl _)
  | (with_reducible exact LeO.none _)
  | (with_reducible refine LeO.ite ?_ ?_)
  | (with_reducible refine LeO.bind ?_ (fun _ => ?_))
  | exact ih0 _ _ _
  | exact ih1 _ _ _ _ _
  | exact LeO.none _
  | refine LeO.ite ?_ ?_
  | refine LeO.bind ?_ (fun _ => ?_)
set_option maxHeartbeats 64000000 in
set_option maxRecDepth 100000 in
theorem octets_laid.calls (k : Nat) (a0 : Int) (a1 : Int) (r1 : ByteArray) (r2 : Bool) (w : World) (h : octets_laid.f k a0 a1 = some (r1, r2)) :
 Calls Tryd.prog 70 #[.int .i64 a0, .int .i64 a1] w fun e w' => e = .returned (.tuple #[.string r1, .bool r2]) ∧ Below w.heap.size w w' := by
 have HB := Aside0.mk (Below.refl w.heap.size w)
 have H : (if a0 < 0 then (octets_laid.j0 k a0 a1 true) else (if 0 ≤ (wrap64 (8 * a1)) then (octets_laid.j0 k a0 a1 ((shr .i64 a0 (wrap64 (8 * a1))) != 0)) else (none))) = some (r1, r2) := h
 clear h
 have HC3 := Aside0.mk H
 clear H
 go_enter Tryd.func70, Tryd.ntmps70
 go_upto_region 1 with (fail)
 go_cut [16] (fun v16 wc => ∃ (kq : Nat) (x16_2 : Bool), v16 = .bool x16_2 ∧ Aside0 (octets_laid.j0 kq a0 a1 x16_2 = some (r1, r2)) ∧ Aside0 (kq ≤ k) ∧ Aside0 (Below w.heap.size w wc))
 case first =>
  have H := HC3.out
  clear HC3
  by_cases c4 : a0 < 0
  ·rw [if_pos c4] at H
   have c4b0 : decide (a0 < 0) = true := decide_eq_true c4
   clear c4
   (first | rw [c4b0] | (simp only [i64_w, i32_w]; rw [c4b0]) | skip)
   have H' := Aside0.mk H
   clear H
   go_wp2
   go_meet
   case rel => exact ⟨_, (true), (by first | rfl | (simp; done) | (simp [*]; done) | exact congrArg Value.bool (nonempty_l _) | (refine congrArg (Value.int _) ?_; first | omega | (unfold wrap64; omega))), H', ⟨by first | omega | exact Nat.le_refl _⟩, ⟨by repeat (first | (with_reducible first | exact HB.out | apply lA_ | apply lN_ | apply lD_) | exact HB.out)⟩⟩
  rw [if_neg c4] at H
  have c4b0 : decide (a0 < 0) = false := decide_eq_false c4
  clear c4
  (first | rw [c4b0] | (simp only [i64_w, i32_w]; rw [c4b0]) | skip)
  obtain ⟨ji5, hji5⟩ : ∃ j_ : Int, (wrap64 (8 * a1)) = j_ := ⟨_, rfl⟩
  replace H : (if 0 ≤ (ji5) then (octets_laid.j0 k a0 a1 ((shr .i64 a0 (ji5)) != 0)) else (none)) = some (r1, r2) := by first | (rw [hji5] at H; exact H) | (simp only [hji5] at H ⊢; exact H)
  have hji5w : (IntKind.i64.wrap (8 * a1)) = ji5 := (i64_w _).trans hji5
  by_cases c6 : 0 ≤ (ji5)
  rotate_left
  ·rw [if_neg c6] at H
   exact absurd H (by simp)
  rw [if_pos c6] at H
  have c6b0 := eq_true c6
  have c6b1 : decide (0 ≤ (ji5)) = true := decide_eq_true c6
  clear c6
  obtain ⟨ji7, hji7⟩ : ∃ j_ : Int, (shr .i64 a0 (ji5)) = j_ := ⟨_, rfl⟩
  replace H : (octets_laid.j0 k a0 a1 ((ji7) != 0)) = some (r1, r2) := by first | (rw [hji7] at H; exact H) | (simp only [hji7] at H ⊢; exact H)
  have hji7_ : (a0 / 2 ^ min (ji5).toNat 64) = ji7 := hji7
  have hji7z : (ji5) ≤ 64 → (a0 / 2 ^ (ji5).toNat) = ji7 := shr_small hji7
  (try (have hji7n : (0 ≤ (ji5)) = True := eq_true (by omega)))
  have H' := Aside0.mk H
  clear H
  go_wp2
  go_meet
  case rel => exact ⟨_, (((ji7) != 0)), (by first | rfl | (simp; done) | (simp only [← hji7] <;> (first | rfl | simp)) | (simp [*]; done) | exact congrArg Value.bool (nonempty_l _) | (refine congrArg (Value.int _) ?_; first | omega | (unfold wrap64; omega))), H', ⟨by first | omega | exact Nat.le_refl _⟩, ⟨by repeat (first | (with_reducible first | exact HB.out | apply lA_ | apply lN_ | apply lD_) | exact HB.out)⟩⟩
 case rest =>
  clear HC3
  (try clear p2); (try clear c4); (try clear c4b0); (try clear c6); (try clear c6b0); (try clear c6b1); (try clear p6); (try clear c7)
  obtain ⟨kq, x16_2, rfl, HA, HJ2, HB⟩ := hcut
  cases kq with
  | zero => exact absurd HA.out (by simp [octets_laid.j0])
  | succ kj2 =>
   have H := HA.out
   clear HA
   simp only [octets_laid.j0] at H
   by_cases c8 : x16_2 = true
   ·subst c8
    have H1 : (some ((⟨#[]⟩ : ByteArray), false)) = some (r1, r2) := by rw [if_pos rfl] at H; exact H
    clear H
    have H := H1
    clear H1
    simp only [Option.some.injEq, Prod.mk.injEq] at H
    obtain ⟨rfl, rfl⟩ := H
    go_wp2
    go_ret2
    exact ⟨by first | rfl | (simp [errW_none, errW_some] <;> rfl) | (simp [*, errW_none, errW_some] <;> rfl), by repeat (first | (with_reducible first | exact HB.out | apply lA_ | apply lN_ | apply lD_) | exact HB.out)⟩
   replace c8 := Bool.eq_false_iff.mpr c8
   subst c8
   have H1 : (if 0 ≤ a1 then (if (a1 : Int).toNat ≤ 281474976710656 then ((some (List.replicate (a1 : Int).toNat 0 : List Int)).bind fun y101 => (octets_laid.l0 kj2 a0 a1 y101 (y101.length : Int) 0)) else (none)) else (none)) = some (r1, r2) := by rw [if_neg (show ¬ (false = true) by decide)] at H; exact H
   clear H
   have H := H1
   clear H1
   by_cases c9 : 0 ≤ a1
   rotate_left
   ·rw [if_neg c9] at H
    exact absurd H (by simp)
   rw [if_pos c9] at H
   have c9b0 := eq_true c9
   have c9b1 : decide (0 ≤ a1) = true := decide_eq_true c9
   clear c9
   by_cases c10 : (a1 : Int).toNat ≤ 281474976710656
   rotate_left
   ·rw [if_neg c10] at H
    exact absurd H (by simp)
   rw [if_pos c10] at H
   have c10b0 := eq_true c10
   have c10b1 : decide ((a1 : Int).toNat ≤ 281474976710656) = true := decide_eq_true c10
   clear c10
   obtain ⟨y101, hy101⟩ : ∃ y_ : List Int, y_ = (List.replicate (a1 : Int).toNat 0) := ⟨_, rfl⟩
   replace H : (octets_laid.l0 kj2 a0 a1 y101 (y101.length : Int) 0) = some (r1, r2) := by first | (rw [hy101]; with_reducible exact H) | (have H2_ := (Option.bind_some _ _).symm.trans H; rw [hy101]; with_reducible exact H2_) | (have H2_ := (Option.bind_some _ _).symm.trans H; with_reducible exact H2_) | with_reducible exact H | (rw [hy101]; exact H) | exact H
   have Ny101 := Aside0.mk hy101
   clear hy101
   have H' := Aside0.mk H
   clear H
   go_wp2_with (first | ((with_reducible refine gate_dst (N := 18) rfl ?_); refine Kd.R_make (Kd.int .u8) _ 5 rfl (N := 18) rfl 42 _ _ rfl a1 rfl rfl Tryd.underlying42 (.int .u8 0) 1 info5 rfl (by decide) (by omega) 0 (ok := fun _ => True) (okp := fun _ => True) rfl (fun _ hk => hk) trivial (od_ (by first | (with_reducible assumption) | assumption)) (Nat.le_trans (Nat.mul_le_mul_right _ (od_ (by first | (with_reducible assumption) | assumption) : a1.toNat ≤ 281474976710656)) (by omega)) (Below.refl _ _) (Nat.le_refl _) ?_; intro v102 w11 ho12 hb hg_ hnew_; clear hg_ hnew_; (first | rw [← Ny101.out] at ho12 | (simp only [Int.reduceToNat] at ho12; rw [← Ny101.out] at ho12)); have n0_ := Aside0.mk (Kd.R_lower ho12 (below_size (by repeat (first | (with_reducible first | exact HB.out | apply lA_ | apply lN_ | apply lD_) | exact HB.out)))); have n1_ := Aside0.mk (below_step (by repeat (first | (with_reducible first | exact HB.out | apply lA_ | apply lN_ | apply lD_) | exact HB.out)) hb); clear HB; have HO103 := n0_; have HB := n1_; clear n0_ n1_; clear hb ho12; obtain ⟨Ao13, co13, eo13⟩ := Kd.R_slice HO103.out; subst eo13))
   go_loopg [21] kj2 (fun kq v21 w' => ∃ (x6_2 : List Int) (x21_2 : Int), v21 = .int .i64 x21_2 ∧ Aside0 (octets_laid.l0 kq a0 a1 x6_2 (y101.length : Int) x21_2 = some (r1, r2)) ∧ Aside0 (kq ≤ kj2) ∧ Aside0 (Kd.R (Kd.int .u8) 5 w' w.heap.size (fun _ => True) (.slice Ao13 y101.length co13) x6_2) ∧ Aside0 (Below w.heap.size w w'))
   case atStart => exact ⟨(y101), (0), (by first | rfl | (simp; done) | (simp [*]; done) | exact congrArg Value.bool (nonempty_l _) | (refine congrArg (Value.int _) ?_; first | omega | (unfold wrap64; omega))), H', ⟨Nat.le_refl _⟩, ⟨by (with_reducible repeat (first | apply Kd.R_alloc | apply Kd.R_drewN | apply Kd.R_drew)); exact HO103.out⟩, ⟨by repeat (first | (with_reducible first | exact HB.out | apply lA_ | apply lN_ | apply lD_) | exact HB.out)⟩⟩
   case round =>
    clear H'
    (try clear c1); (try clear p2); (try clear c4); (try clear c4b0); (try clear c6); (try clear c6b0); (try clear c6b1); (try clear p6); (try clear c7); (try clear c8); (try clear c9); (try clear c9b0); (try clear c9b1); (try clear c10); (try clear c10b0); (try clear c10b1); (try clear p2); (try clear p6)
    obtain ⟨x6_2, x21_2, rfl, HA, HK2, HO_6, HB⟩ := hrel
    have hl6_2 := (Kd.R_reads' HO_6.out).1
    rw [hl6_2] at HO_6
    (try simp only [hl6_2])
    cases gk with
    | zero => exact absurd HA.out (by simp [octets_laid.l0])
    | succ k2 =>
     have H := HA.out
     clear HA
     simp only [octets_laid.l0] at H
     by_cases c14 : x21_2 < (y101.length : Int)
     ·rw [if_pos c14] at H
      have c14b0 : decide (x21_2 < (y101.length : Int)) = true := decide_eq_true c14
      (try (have c14b7 := c14b0; simp only [hl6_2] at c14b7))
      clear c14
      obtain ⟨ji15, hji15⟩ : ∃ j_ : Int, (wrap64 (8 * x21_2)) = j_ := ⟨_, rfl⟩
      replace H : (if 0 ≤ (ji15) then (if 0 ≤ (wrap64 ((wrap64 (a1 - 1)) - x21_2)) then (if (wrap64 ((wrap64 (a1 - 1)) - x21_2)) < (x6_2.length : Int) then (octets_laid.l0 k2 a0 a1 (x6_2.set ((wrap64 ((wrap64 (a1 - 1)) - x21_2)) : Int).toNat ((shr .i64 a0 (ji15)) % 256)) (y101.length : Int) (wrap64 (x21_2 + 1))) else (none)) else (none)) else (none)) = some (r1, r2) := by first | (rw [hji15] at H; exact H) | (simp only [hji15] at H ⊢; exact H)
      have hji15w : (IntKind.i64.wrap (8 * x21_2)) = ji15 := (i64_w _).trans hji15
      by_cases c16 : 0 ≤ (ji15)
      rotate_left
      ·rw [if_neg c16] at H
       exact absurd H (by simp)
      rw [if_pos c16] at H
      have c16b0 := eq_true c16
      have c16b1 : decide (0 ≤ (ji15)) = true := decide_eq_true c16
      clear c16
      obtain ⟨ji17, hji17⟩ : ∃ j_ : Int, (shr .i64 a0 (ji15)) = j_ := ⟨_, rfl⟩
      replace H : (if 0 ≤ (wrap64 ((wrap64 (a1 - 1)) - x21_2)) then (if (wrap64 ((wrap64 (a1 - 1)) - x21_2)) < (x6_2.length : Int) then (octets_laid.l0 k2 a0 a1 (x6_2.set ((wrap64 ((wrap64 (a1 - 1)) - x21_2)) : Int).toNat ((ji17) % 256)) (y101.length : Int) (wrap64 (x21_2 + 1))) else (none)) else (none)) = some (r1, r2) := by first | (rw [hji17] at H; exact H) | (simp only [hji17] at H ⊢; exact H)
      have hji17_ : (a0 / 2 ^ min (ji15).toNat 64) = ji17 := hji17
      have hji17z : (ji15) ≤ 64 → (a0 / 2 ^ (ji15).toNat) = ji17 := shr_small hji17
      (try (have hji17n : (0 ≤ (ji15)) = True := eq_true (by omega)))
      obtain ⟨ji18, hji18⟩ : ∃ j_ : Int, (wrap64 ((wrap64 (a1 - 1)) - x21_2)) = j_ := ⟨_, rfl⟩
      replace H : (if 0 ≤ (ji18) then (if (ji18) < (x6_2.length : Int) then (octets_laid.l0 k2 a0 a1 (x6_2.set ((ji18) : Int).toNat ((ji17) % 256)) (y101.length : Int) (wrap64 (x21_2 + 1))) else (none)) else (none)) = some (r1, r2) := by first | (rw [hji18] at H; exact H) | (simp only [hji18] at H ⊢; exact H)
      have hji18w : (IntKind.i64.wrap ((wrap64 (a1 - 1)) - x21_2)) = ji18 := (i64_w _).trans hji18
      by_cases c19 : 0 ≤ (ji18)
      rotate_left
      ·rw [if_neg c19] at H
       exact absurd H (by simp)
      rw [if_pos c19] at H
      have c19b0 : decide (0 ≤ (ji18)) = true := decide_eq_true c19
      (try (have c19b7 := c19b0; simp only [hl6_2] at c19b7))
      clear c19
      by_cases c20 : (ji18) < (x6_2.length : Int)
      rotate_left
      ·rw [if_neg c20] at H
       exact absurd H (by simp)
      rw [if_pos c20] at H
      have c20b0 : decide ((ji18) < (x6_2.length : Int)) = true := decide_eq_true c20
      (try (have c20b7 := c20b0; simp only [hl6_2] at c20b7))
      clear c20
      obtain ⟨y104, hy104⟩ : ∃ y_ : List Int, y_ = (x6_2.set ((ji18) : Int).toNat ((ji17) % 256)) := ⟨_, rfl⟩
      replace H : (octets_laid.l0 k2 a0 a1 y104 (y101.length : Int) (wrap64 (x21_2 + 1))) = some (r1, r2) := by first | (rw [hy104]; with_reducible exact H) | (have H2_ := (Option.bind_some _ _).symm.trans H; rw [hy104]; with_reducible exact H2_) | (have H2_ := (Option.bind_some _ _).symm.trans H; with_reducible exact H2_) | with_reducible exact H | (rw [hy104]; exact H) | exact H
      have Ny104 := Aside0.mk hy104
      clear hy104
      have H' := Aside0.mk H
      clear H
      have p21 : 0 ≤ ((ji18) : Int) := od_ (by first | (with_reducible assumption) | assumption)
      have q21 : ((ji18) : Int) < ((x6_2.length : Int) : Int) := od_ (by first | (with_reducible assumption) | assumption)
      obtain ⟨go21, co21, eo21, gb21, gl21, cl21, HG21⟩ := Kd.R_form HO_6.out (by omega)
      (first | cases eo21 | (injection eo21 with ea_ en_ ec_; (first | subst ea_ | (injection ea_ with ea_; subst ea_)); subst ec_; clear en_))
      have GB21 := Aside0.mk gb21
      have GG21 := Aside0.mk HG21
      clear gb21 gl21 HG21
      obtain ⟨hx21_0, hf21_0⟩ := Kd.R_celln 0 HO_6.out ((ji18) : Int) p21 q21
      replace p21 := eq_true p21
      replace q21 := eq_true q21
      have HP22 := Kd.R_putg HO_6.out ((ji18) : Int) ((ji17) % 256)
      go_wp2_with (first | ((with_reducible refine gate_store (t := 5) (p := 34) rfl ?_); refine store_event (t := 5) (p := 34) (v := ?vo_w23) (w1 := (wr.setCell ⟨go21, ((ji18) : Int).toNat, none⟩ (.int .u8 ((ji17) % 256)))) ?hg ?ho ?hn ?hr ?_; (case ho => rfl); (case hg => rfl); (case hn => rfl); (case hr => first | (go_simp; done) | (go_simp; rfl)); intro w23 hw; have hg : wr.grownBy w23 (some go21) := (by rw [hw]; exact HP22.2); have hp_ : Kd.R (Kd.int .u8) 5 w23 w.heap.size (fun _ => True) (.slice (some ⟨go21, 0, none⟩) x6_2.length co13) y104 := (by rw [hw, Ny104.out]; exact HP22.1); clear HP22; have n0_ := Aside0.mk (hp_); have n1_ := Aside0.mk ((by rw [hw]; exact below_set (HB.out) GB21.out : Below w.heap.size w w23)); clear HO_6; clear HB; have HO_6 := n0_; have HB := n1_; clear n0_ n1_; clear hg hw hp_))
      (try simp only [← hl6_2])
      go_roundg k2
      case measure => have := HJ2.out; have := HK2.out; omega
      case rel => exact ⟨(y104), (wrap64 (x21_2 + 1)), (by first | rfl | (simp; done) | (simp [*]; done) | exact congrArg Value.bool (nonempty_l _) | (refine congrArg (Value.int _) ?_; first | omega | (unfold wrap64; omega))), H', ⟨by have := HJ2.out; have := HK2.out; omega⟩, ⟨by (try simp only [hl6_2]); (with_reducible repeat (first | apply Kd.R_alloc | apply Kd.R_drewN | apply Kd.R_drew)); exact HO_6.out⟩, ⟨by repeat (first | (with_reducible first | exact HB.out | apply lA_ | apply lN_ | apply lD_) | exact HB.out)⟩⟩
     rw [if_neg c14] at H
     have c14b0 : decide (x21_2 < (y101.length : Int)) = false := decide_eq_false c14
     (try (have c14b7 := c14b0; simp only [hl6_2] at c14b7))
     clear c14
     simp only [Option.some.injEq, Prod.mk.injEq] at H
     obtain ⟨rfl, rfl⟩ := H
     have hcv24 := own_string (P := Tryd.prog) Tryd.underlying42 Tryd.underlying5 Tryd.underlying9 (Kd.own_of_R HO_6.out)
     go_wp2
     go_ret2
     exact ⟨by first | rfl | (simp [errW_none, errW_some] <;> rfl) | (simp [*, errW_none, errW_some] <;> rfl), by repeat (first | (with_reducible first | exact HB.out | apply lA_ | apply lN_ | apply lD_) | exact HB.out)⟩

/-! ### octets_Short: function 42 -/
def octets_Short.f (k : Nat) (a0 : Int) : Option (ByteArray × Bool) := (octets_laid.f k a0 2).bind fun bt105 => (some (bt105.1, bt105.2))
theorem octets_Short.mono : ∀ a0 k, LeO (octets_Short.f k a0) (octets_Short.f (k + 1) a0) := by
 intro a0 k
 unfold octets_Short.f
 repeat' first
  | (with_reducible exact octets_laid.mono _ _ _)
  | (with_reducible exact LeO.refl _)
  | (with_reducible exact LeO.none _)
  | (with_reducible refine LeO.ite ?_ ?_)
  | (with_reducible refine LeO.bind ?_ (fun _ => ?_))
  | exact octets_laid.mono _ _ _
  | exact LeO.none _
  | refine LeO.ite ?_ ?_
  | refine LeO.bind ?_ (fun _ => ?_)
set_option maxHeartbeats 64000000 in
set_option maxRecDepth 100000 in
theorem octets_Short.calls (k : Nat) (a0 : Int) (r1 : ByteArray) (r2 : Bool) (w : World) (h : octets_Short.f k a0 = some (r1, r2)) :
 Calls Tryd.prog 42 #[.int .i64 a0] w fun e w' => e = .returned (.tuple #[.string r1, .bool r2]) ∧ Below w.heap.size w w' := by
 have HB := Aside0.mk (Below.refl w.heap.size w)
 have H : ((octets_laid.f k a0 2).bind fun bt105 => (some (bt105.1, bt105.2))) = some (r1, r2) := h
 clear h
 replace H := ob_ H
 obtain ⟨⟨t105, t106⟩, A20, H⟩ := H
 replace H : (some (t105, t106)) = some (r1, r2) := H
 have A2 := Aside0.mk A20
 clear A20
 simp only [Option.some.injEq, Prod.mk.injEq] at H
 obtain ⟨rfl, rfl⟩ := H
 go_enter Tryd.func42, Tryd.ntmps42
 go_wp2_with (first | ((with_reducible refine gate_callee (f := 70) rfl ?_); refine goesL_ (some 5) rfl rfl Tryd.func70 (by kernel_rfl) rfl #[.int .i64 a0, .int .i64 2] rfl (by (try simp only [gm_]); first | done | rfl | (simp only [gl_]; rfl)) ?_; (with_reducible refine (octets_laid.calls k a0 2 t105 t106 _ A2.out).mono ?_); rintro e w3 ⟨rfl, hb⟩; refine ⟨_, rfl, ?_⟩; have n0_ := Aside0.mk (below_step (by repeat (first | (with_reducible first | exact HB.out | apply lA_ | apply lN_ | apply lD_) | exact HB.out)) hb); clear HB; have HB := n0_; clear n0_; (try clear hb); (try clear hb2); (try clear hk); (try clear hi)))
 go_ret2
 exact ⟨by first | rfl | (simp [errW_none, errW_some] <;> rfl) | (simp [*, errW_none, errW_some] <;> rfl), by repeat (first | (with_reducible first | exact HB.out | apply lA_ | apply lN_ | apply lD_) | exact HB.out)⟩

/-! ### octets_Text: function 25 -/
def octets_Text.f (k : Nat) (a0 : ByteArray) : Option (ByteArray × Bool) := if (a0.size : Int) > 65535 then (some ((⟨#[]⟩ : ByteArray), false)) else ((octets_Short.f k (a0.size : Int)).bind fun bt107 => (if bt107.1.size + a0.size ≤ 9223372036854775807 then (some (bt107.1 ++ a0, true)) else (none)))
theorem octets_Text.mono : ∀ a0 k, LeO (octets_Text.f k a0) (octets_Text.f (k + 1) a0) := by
 intro a0 k
 unfold octets_Text.f
 repeat' first
  | (with_reducible exact octets_Short.mono _ _)
  | (with_reducible exact LeO.refl _)
  | (with_reducible exact LeO.none _)
  | (with_reducible refine LeO.ite ?_ ?_)
  | (with_reducible refine LeO.bind ?_ (fun _ => ?_))
  | exact octets_Short.mono _ _
  | exact LeO.none _
  | refine LeO.ite ?_ ?_
  | refine LeO.bind ?_ (fun _ => ?_)
set_option maxHeartbeats 64000000 in
set_option maxRecDepth 100000 in
theorem octets_Text.calls (k : Nat) (a0 : ByteArray) (r1 : ByteArray) (r2 : Bool) (w : World) (h : octets_Text.f k a0 = some (r1, r2)) :
 Calls Tryd.prog 25 #[.string a0] w fun e w' => e = .returned (.tuple #[.string r1, .bool r2]) ∧ Below w.heap.size w w' := by
 have HB := Aside0.mk (Below.refl w.heap.size w)
 have H : (if (a0.size : Int) > 65535 then (some ((⟨#[]⟩ : ByteArray), false)) else ((octets_Short.f k (a0.size : Int)).bind fun bt107 => (if bt107.1.size + a0.size ≤ 9223372036854775807 then (some (bt107.1 ++ a0, true)) else (none)))) = some (r1, r2) := h
 clear h
 by_cases c2 : (a0.size : Int) > 65535
 ·rw [if_pos c2] at H
  have c2b0 : decide (65535 < (a0.size : Int)) = true := decide_eq_true c2
  have c2b1 : decide (65535 < a0.size) = true := decide_eq_true (by omega)
  clear c2
  simp only [Option.some.injEq, Prod.mk.injEq] at H
  obtain ⟨rfl, rfl⟩ := H
  go_enter Tryd.func25, Tryd.ntmps25
  go_wp2
  go_ret2
  exact ⟨by first | rfl | (simp [errW_none, errW_some] <;> rfl) | (simp [*, errW_none, errW_some] <;> rfl), by repeat (first | (with_reducible first | exact HB.out | apply lA_ | apply lN_ | apply lD_) | exact HB.out)⟩
 rw [if_neg c2] at H
 have c2b0 : decide (65535 < (a0.size : Int)) = false := decide_eq_false c2
 have c2b1 : decide (65535 < a0.size) = false := decide_eq_false (by omega)
 clear c2
 replace H := ob_ H
 obtain ⟨⟨t107, t108⟩, A30, H⟩ := H
 replace H : (if t107.size + a0.size ≤ 9223372036854775807 then (some (t107 ++ a0, true)) else (none)) = some (r1, r2) := H
 have A3 := Aside0.mk A30
 clear A30
 by_cases c4 : t107.size + a0.size ≤ 9223372036854775807
 rotate_left
 ·rw [if_neg c4] at H
  exact absurd H (by simp)
 rw [if_pos c4] at H
 have c4b0 := eq_true c4
 have c4b1 : decide (t107.size + a0.size ≤ 9223372036854775807) = true := decide_eq_true c4
 try have c4b2 : (9223372036854775807 < t107.size + a0.size) = False := eq_false (Nat.not_lt.2 c4)
 simp only [Option.some.injEq, Prod.mk.injEq] at H
 obtain ⟨rfl, rfl⟩ := H
 go_enter Tryd.func25, Tryd.ntmps25
 go_wp2_with (first | ((with_reducible refine gate_callee (f := 42) rfl ?_); refine goesL_ (some 12) rfl rfl Tryd.func42 (by kernel_rfl) rfl #[.int .i64 (a0.size : Int)] rfl (by (try simp only [gm_]); first | done | rfl | (simp only [gl_]; rfl)) ?_; (with_reducible refine (octets_Short.calls k (a0.size : Int) t107 t108 _ A3.out).mono ?_); rintro e w5 ⟨rfl, hb⟩; refine ⟨_, rfl, ?_⟩; have n0_ := Aside0.mk (below_step (by repeat (first | (with_reducible first | exact HB.out | apply lA_ | apply lN_ | apply lD_) | exact HB.out)) hb); clear HB; have HB := n0_; clear n0_; (try clear hb); (try clear hb2); (try clear hk); (try clear hi)))
 go_ret2
 exact ⟨by first | rfl | (simp [errW_none, errW_some] <;> rfl) | (simp [*, errW_none, errW_some] <;> rfl), by repeat (first | (with_reducible first | exact HB.out | apply lA_ | apply lN_ | apply lD_) | exact HB.out)⟩

/-! ### event_hash: function 27 -/
def event_hash.f (a0 : ByteArray) : Option (Bool) := some ((a0.size : Int) == 32)
set_option maxHeartbeats 64000000 in
set_option maxRecDepth 100000 in
theorem event_hash.calls (a0 : ByteArray) (r : Bool) (w : World) (h : event_hash.f a0 = some r) :
 Calls Tryd.prog 27 #[.string a0] w fun e w' => e = .returned (.bool r) ∧ Drawn0 w w' := by
 have H : (some ((a0.size : Int) == 32)) = some r := h
 clear h
 obtain rfl := Option.some.inj H
 go_enter Tryd.func27, Tryd.ntmps27
 go_wp2
 go_ret
 exact ⟨by first | rfl | (simp; done) | (simp [*]; done) | exact congrArg Value.bool (nonempty_l _) | (refine congrArg (Value.int _) ?_; first | omega | (unfold wrap64; omega)), by repeat (first | exact Drawn0.refl _ | apply Drawn0.step)⟩

/-! ### event_Right: function 13 -/
mutual
def event_Right.l0 : Nat → List ByteArray → Int → Int → Int → ByteArray → List ByteArray → ByteArray → ByteArray → Option (Bool)
 | 0, _, _, _, _, _, _, _, _ => none
 | k + 1, x6, x7, x8, x112000, x112001, x112002, x112003, x112004 => if x8 < x7 then (if 0 ≤ x8 then (if x8 < (x6.length : Int) then ((event_hash.f (rdOf ByteArray.empty x6 x8)).bind fun t113 => (if t113 = true then (if x8 > 0 then (if 0 ≤ (wrap64 (x8 - 1)) then (if (wrap64 (x8 - 1)) < (x112002.length : Int) then (if ((Op.bytesLess ((rdOf ByteArray.empty x112002 (wrap64 (x8 - 1))).toList) ((rdOf ByteArray.empty x6 x8).toList)) = true) then (event_Right.l0 k x6 x7 (wrap64 (x8 + 1)) x112000 x112001 x112002 x112003 x112004) else (some false)) else (none)) else (none)) else (event_Right.l0 k x6 x7 (wrap64 (x8 + 1)) x112000 x112001 x112002 x112003 x112004)) else (some false))) else (none)) else (none)) else (if x112000 = 1 then (if (x112002.length : Int) > 0 then (some false) else ((event_hash.f x112001).bind fun t115 => (if t115 = true then (if (x112002.length : Int) ≤ 8 then (if (x112003.size : Int) ≤ 200 then (some (decide ((x112004.size : Int) ≤ 65535))) else (some false)) else (some false)) else (some false)))) else (if x112000 = 4 then (event_Right.j1 k x112000 (x112000 == 4) x112000 x112001 x112002 x112003 x112004) else (event_Right.j1 k x112000 (x112000 == 5) x112000 x112001 x112002 x112003 x112004)))
def event_Right.j1 : Nat → Int → Bool → Int → ByteArray → List ByteArray → ByteArray → ByteArray → Option (Bool)
 | 0, _, _, _, _, _, _, _ => none
 | k + 1, x32, x35, x112000, x112001, x112002, x112003, x112004 => if x35 = true then ((event_hash.f x112003).bind fun t117 => (if t117 = true then (if (x112002.length : Int) = 0 then (some false) else ((event_hash.f x112001).bind fun t118 => (if t118 = true then (if (x112002.length : Int) ≤ 8 then (if (x112003.size : Int) ≤ 200 then (some (decide ((x112004.size : Int) ≤ 65535))) else (some false)) else (some false)) else (some false)))) else (some false))) else (if x32 = 2 then (event_Right.j2 k (x32 == 2) x112000 x112001 x112002 x112003 x112004) else (event_Right.j2 k (x32 == 3) x112000 x112001 x112002 x112003 x112004))
def event_Right.j2 : Nat → Bool → Int → ByteArray → List ByteArray → ByteArray → ByteArray → Option (Bool)
 | 0, _, _, _, _, _, _ => none
 | k + 1, x38, x112000, x112001, x112002, x112003, x112004 => if x38 = true then (if (x112002.length : Int) = 0 then (some false) else ((event_hash.f x112001).bind fun t116 => (if t116 = true then (if (x112002.length : Int) ≤ 8 then (if (x112003.size : Int) ≤ 200 then (some (decide ((x112004.size : Int) ≤ 65535))) else (some false)) else (some false)) else (some false)))) else (some false)
end
def event_Right.f (k : Nat) (a0_0 : Int) (a0_1 : ByteArray) (l0_2 : List ByteArray) (a0_3 : ByteArray) (a0_4 : ByteArray) : Option (Bool) := event_Right.l0 k l0_2 (l0_2.length : Int) 0 a0_0 a0_1 l0_2 a0_3 a0_4
theorem event_Right.mono_l : ∀ k, (∀ y0 y1 y2 y3 y4 y5 y6 y7, LeO (event_Right.l0 k y0 y1 y2 y3 y4 y5 y6 y7) (event_Right.l0 (k + 1) y0 y1 y2 y3 y4 y5 y6 y7)) ∧ (∀ y0 y1 y2 y3 y4 y5 y6, LeO (event_Right.j1 k y0 y1 y2 y3 y4 y5 y6) (event_Right.j1 (k + 1) y0 y1 y2 y3 y4 y5 y6)) ∧ (∀ y0 y1 y2 y3 y4 y5, LeO (event_Right.j2 k y0 y1 y2 y3 y4 y5) (event_Right.j2 (k + 1) y0 y1 y2 y3 y4 y5))
 | 0 => ⟨fun _ _ _ _ _ _ _ _ r h => by simp [event_Right.l0] at h, fun _ _ _ _ _ _ _ r h => by simp [event_Right.j1] at h, fun _ _ _ _ _ _ r h => by simp [event_Right.j2] at h⟩
 | k + 1 => by
  obtain ⟨ih0, ih1, ih2⟩ := event_Right.mono_l k
  refine ⟨?_, ?_, ?_⟩
  ·intro y0 y1 y2 y3 y4 y5 y6 y7
   unfold event_Right.l0
   repeat' first
   | (with_reducible exact ih0 _ _ _ _ _ _ _ _)
   | (with_reducible exact ih1 _ _ _ _ _ _ _)
   | (with_reducible exact ih2 _ _ _ _ _ _)
   | (with_reducible exact LeO.refl _)
   | (with_reducible exact LeO.none _)
   | (with_reducible refine LeO.ite ?_ ?_)
   | (with_reducible refine LeO.bind ?_ (fun _ => ?_))
   | exact ih0 _ _ _ _ _ _ _ _
   | exact ih1 _ _ _ _ _ _ _
   | exact ih2 _ _ _ _ _ _
   | exact LeO.none _
   | refine LeO.ite ?_ ?_
   | refine LeO.bind ?_ (fun _ => ?_)
  ·intro y0 y1 y2 y3 y4 y5 y6
   unfold event_Right.j1
   repeat' first
   | (with_reducible exact ih0 _ _ _ _ _ _ _ _)
   | (with_reducible exact ih1 _ _ _ _ _ _ _)
   | (with_reducible exact ih2 _ _ _ _ _ _)
   | (with_reducible exact LeO.refl _)
   | (with_reducible exact LeO.none _)
   | (with_reducible refine LeO.ite ?_ ?_)
   | (with_reducible refine LeO.bind ?_ (fun _ => ?_))
   | exact ih0 _ _ _ _ _ _ _ _
   | exact ih1 _ _ _ _ _ _ _
   | exact ih2 _ _ _ _ _ _
   | exact LeO.none _
   | refine LeO.ite ?_ ?_
   | refine LeO.bind ?_ (fun _ => ?_)
  intro y0 y1 y2 y3 y4 y5
  unfold event_Right.j2
  repeat' first
  | (with_reducible exact ih0 _ _ _ _ _ _ _ _)
  | (with_reducible exact ih1 _ _ _ _ _ _ _)
  | (with_reducible exact ih2 _ _ _ _ _ _)
  | (with_reducible exact LeO.refl _)
  | (with_reducible exact LeO.none _)
  | (with_reducible refine LeO.ite ?_ ?_)
  | (with_reducible refine LeO.bind ?_ (fun _ => ?_))
  | exact ih0 _ _ _ _ _ _ _ _
  | exact ih1 _ _ _ _ _ _ _
  | exact ih2 _ _ _ _ _ _
  | exact LeO.none _
  | refine LeO.ite ?_ ?_
  | refine LeO.bind ?_ (fun _ => ?_)
theorem event_Right.mono : ∀ a0 a1 a2 a3 a4 k, LeO (event_Right.f k a0 a1 a2 a3 a4) (event_Right.f (k + 1) a0 a1 a2 a3 a4) := by
 intro a0 a1 a2 a3 a4 k
 obtain ⟨ih0, ih1, ih2⟩ := event_Right.mono_l k
 unfold event_Right.f
 repeat' first
  | (with_reducible exact ih0 _ _ _ _ _ _ _ _)
  | (with_reducible exact ih1 _ _ _ _ _ _ _)
  | (with_reducible exact ih2 _ _ _ _ _ _)
  | (with_reducible exact LeO.refl _)
  | (with_reducible exact LeO.none _)
  | (with_reducible refine LeO.ite ?_ ?_)
  | (with_reducible refine LeO.bind ?_ (fun _ => ?_))
  | exact ih0 _ _ _ _ _ _ _ _
  | exact ih1 _ _ _ _ _ _ _
  | exact ih2 _ _ _ _ _ _
  | exact LeO.none _
  | refine LeO.ite ?_ ?_
  | refine LeO.bind ?_ (fun _ => ?_)
set_option maxHeartbeats 64000000 in
set_option maxRecDepth 100000 in
theorem event_Right.calls (k : Nat) (a0_0 : Int) (a0_1 : ByteArray) (A0_2 : Option Addr) (c0_2 : Nat) (l0_2 : List ByteArray) (a0_3 : ByteArray) (a0_4 : ByteArray) (r : Bool) (w : World) (hr0_2 : Kd.C Kd.string w A0_2 l0_2.length l0_2) (hc0_2 : l0_2.length ≤ c0_2) (h : event_Right.f k a0_0 a0_1 l0_2 a0_3 a0_4 = some r) :
 Calls Tryd.prog 13 #[.agg #[.int .i64 a0_0, .string a0_1, .slice A0_2 l0_2.length c0_2, .string a0_3, .string a0_4]] w fun e w' => e = .returned (.bool r) ∧ Below w.heap.size w w' := by
 have hu24 := Tryd.underlying24
 have HR0_2 := Aside0.mk hr0_2
 have HC0_2 := Aside0.mk hc0_2
 clear hr0_2 hc0_2
 have HB := Aside0.mk (Below.refl w.heap.size w)
 have H : (event_Right.l0 k l0_2 (l0_2.length : Int) 0 a0_0 a0_1 l0_2 a0_3 a0_4) = some r := h
 clear h
 have H' := Aside0.mk H
 clear H
 go_enter Tryd.func13, Tryd.ntmps13
 go_wp2_with (first | ((with_reducible refine gate_dst (N := 1) rfl ?_); (try (refine gate_guard (by rfl) ?_; dsimp only)); refine box_event ?hg (N := 1) ?hd (cs := #[.int .i64 a0_0, .string a0_1, .slice A0_2 l0_2.length c0_2, .string a0_3, .string a0_4]) (t := 24) ?hr ?_; (case hd => rfl); (case hg => rfl); (case hr => first | (go_simp; done) | (go_simp; rfl)); intro gb111 hg w2 hbox hb; have n0_ := Aside0.mk (below_step (by repeat (first | (with_reducible first | exact HB.out | apply lA_ | apply lN_ | apply lD_) | exact HB.out)) hb); have n1_ := Aside0.mk (hbox); have n2_ := Aside0.mk ((by rw [hg]; exact (below_size (by repeat (first | (with_reducible first | exact HB.out | apply lA_ | apply lN_ | apply lD_) | exact HB.out))) : w.heap.size ≤ gb111)); have n3_ := Aside0.mk ((by rw [hg]; exact (below_size (by repeat (first | (with_reducible first | exact HB.out | apply lA_ | apply lN_ | apply lD_) | exact HB.out))) : w.heap.size ≤ gb111)); clear HB; have HB := n0_; have BK111 := n1_; have GW111 := n2_; have GE111 := n3_; clear n0_ n1_ n2_ n3_; clear hb hbox hg; obtain ⟨hcz3_0, hcz3_1, hcz3_2, hcz3_3, hcz3_4⟩ := c5_ BK111.out; obtain ⟨hfz3_0, hfz3_1, hfz3_2, hfz3_3, hfz3_4⟩ := f5_ BK111.out))
 go_loopg [8] k (fun kq v8 w' => ∃ (x8_1 : Int), v8 = .int .i64 x8_1 ∧ Aside0 (event_Right.l0 kq l0_2 (l0_2.length : Int) x8_1 a0_0 a0_1 l0_2 a0_3 a0_4 = some r) ∧ Aside0 (kq ≤ k) ∧ Aside0 (w'.heap[gb111]? = some (.cells #[.int .i64 a0_0, .string a0_1, (.slice A0_2 l0_2.length c0_2), .string a0_3, .string a0_4] 24 (0, 0))) ∧ Aside0 (Below w.heap.size w w'))
 case atStart => exact ⟨(0), (by first | rfl | (simp; done) | (simp [*]; done) | exact congrArg Value.bool (nonempty_l _) | (refine congrArg (Value.int _) ?_; first | omega | (unfold wrap64; omega))), H', ⟨Nat.le_refl _⟩, ⟨by (with_reducible repeat (first | refine bN_ ?_ _ | refine bD_ ?_ | refine bA_ ?_ _)); exact BK111.out⟩, ⟨by repeat (first | (with_reducible first | exact HB.out | apply lA_ | apply lN_ | apply lD_ | refine lS_ ?_ GE111.out) | exact HB.out)⟩⟩
 case round =>
  clear H'
  (try clear c1); (try clear p2); (try clear hcz3_0); (try clear hcz3_1); (try clear hcz3_2); (try clear hcz3_3); (try clear hcz3_4); (try clear hfz3_0); (try clear hfz3_1); (try clear hfz3_2); (try clear hfz3_3); (try clear hfz3_4)
  obtain ⟨x8_1, rfl, HA, HK1, BK111, HB⟩ := hrel
  cases gk with
  | zero => exact absurd HA.out (by simp [event_Right.l0])
  | succ k1 =>
   have H := HA.out
   clear HA
   simp only [event_Right.l0] at H
   by_cases c4 : x8_1 < (l0_2.length : Int)
   ·rw [if_pos c4] at H
    have c4b0 : decide (x8_1 < (l0_2.length : Int)) = true := decide_eq_true c4
    clear c4
    by_cases c5 : 0 ≤ x8_1
    rotate_left
    ·rw [if_neg c5] at H
     exact absurd H (by simp)
    rw [if_pos c5] at H
    have c5b0 : decide (0 ≤ x8_1) = true := decide_eq_true c5
    clear c5
    by_cases c6 : x8_1 < (l0_2.length : Int)
    rotate_left
    ·rw [if_neg c6] at H
     exact absurd H (by simp)
    rw [if_pos c6] at H
    have c6b0 : decide (x8_1 < (l0_2.length : Int)) = true := decide_eq_true c6
    clear c6
    replace H := ob_ H
    obtain ⟨t113, A70, H⟩ := H
    replace H : (if t113 = true then (if x8_1 > 0 then (if 0 ≤ (wrap64 (x8_1 - 1)) then (if (wrap64 (x8_1 - 1)) < (l0_2.length : Int) then (if ((Op.bytesLess ((rdOf ByteArray.empty l0_2 (wrap64 (x8_1 - 1))).toList) ((rdOf ByteArray.empty l0_2 x8_1).toList)) = true) then (event_Right.l0 k1 l0_2 (l0_2.length : Int) (wrap64 (x8_1 + 1)) a0_0 a0_1 l0_2 a0_3 a0_4) else (some false)) else (none)) else (none)) else (event_Right.l0 k1 l0_2 (l0_2.length : Int) (wrap64 (x8_1 + 1)) a0_0 a0_1 l0_2 a0_3 a0_4)) else (some false)) = some r := H
    have A7 := Aside0.mk A70
    clear A70
    by_cases c8 : t113 = true
    ·subst c8
     have H1 : (if x8_1 > 0 then (if 0 ≤ (wrap64 (x8_1 - 1)) then (if (wrap64 (x8_1 - 1)) < (l0_2.length : Int) then (if ((Op.bytesLess ((rdOf ByteArray.empty l0_2 (wrap64 (x8_1 - 1))).toList) ((rdOf ByteArray.empty l0_2 x8_1).toList)) = true) then (event_Right.l0 k1 l0_2 (l0_2.length : Int) (wrap64 (x8_1 + 1)) a0_0 a0_1 l0_2 a0_3 a0_4) else (some false)) else (none)) else (none)) else (event_Right.l0 k1 l0_2 (l0_2.length : Int) (wrap64 (x8_1 + 1)) a0_0 a0_1 l0_2 a0_3 a0_4)) = some r := by rw [if_pos rfl] at H; exact H
     clear H
     have H := H1
     clear H1
     by_cases c9 : x8_1 > 0
     ·rw [if_pos c9] at H
      have c9b0 : decide (0 < x8_1) = true := decide_eq_true c9
      clear c9
      obtain ⟨ji10, hji10⟩ : ∃ j_ : Int, (wrap64 (x8_1 - 1)) = j_ := ⟨_, rfl⟩
      replace H : (if 0 ≤ (ji10) then (if (ji10) < (l0_2.length : Int) then (if ((Op.bytesLess ((rdOf ByteArray.empty l0_2 (ji10)).toList) ((rdOf ByteArray.empty l0_2 x8_1).toList)) = true) then (event_Right.l0 k1 l0_2 (l0_2.length : Int) (wrap64 (x8_1 + 1)) a0_0 a0_1 l0_2 a0_3 a0_4) else (some false)) else (none)) else (none)) = some r := by first | (rw [hji10] at H; exact H) | (simp only [hji10] at H ⊢; exact H)
      (try rw [hji10] at A7)
      have hji10w : (IntKind.i64.wrap (x8_1 - 1)) = ji10 := (i64_w _).trans hji10
      by_cases c11 : 0 ≤ (ji10)
      rotate_left
      ·rw [if_neg c11] at H
       exact absurd H (by simp)
      rw [if_pos c11] at H
      have c11b0 : decide (0 ≤ (ji10)) = true := decide_eq_true c11
      clear c11
      by_cases c12 : (ji10) < (l0_2.length : Int)
      rotate_left
      ·rw [if_neg c12] at H
       exact absurd H (by simp)
      rw [if_pos c12] at H
      have c12b0 : decide ((ji10) < (l0_2.length : Int)) = true := decide_eq_true c12
      clear c12
      by_cases c13 : ((Op.bytesLess ((rdOf ByteArray.empty l0_2 (ji10)).toList) ((rdOf ByteArray.empty l0_2 x8_1).toList)) = true)
      ·rw [if_pos c13] at H
       have c13b0 : (Op.bytesLess ((rdOf ByteArray.empty l0_2 (ji10)).toList) ((rdOf ByteArray.empty l0_2 x8_1).toList)) = true := c13
       clear c13
       have H' := Aside0.mk H
       clear H
       have p112 : 0 ≤ (x8_1 : Int) := od_ (by first | (with_reducible assumption) | assumption)
       have q112 : x8_1 < (l0_2.length : Int) := od_ (by first | (with_reducible assumption) | assumption)
       obtain ⟨ad112, e112, hx112_0⟩ := Kd.at_string HR0_2.out x8_1 p112 q112
       cases e112
       replace hx112_0 := (HB.out.cell (World.block_lt_of_cell? w _ hx112_0)).trans hx112_0
       replace p112 := eq_true p112
       replace q112 := eq_true q112
       go_wp2_with (first | ((with_reducible refine gate_callee (f := 27) rfl ?_); refine goesL_ (some 14) rfl rfl Tryd.func27 (by kernel_rfl) rfl #[.string (rdOf ByteArray.empty l0_2 x8_1)] rfl (by (try simp only [gm_]); first | done | rfl | (simp only [gl_]; rfl)) ?_; (with_reducible refine (event_hash.calls (rdOf ByteArray.empty l0_2 x8_1) true _ A7.out).mono ?_); rintro e w' ⟨rfl, ⟨nd, rfl⟩⟩; refine ⟨_, rfl, ?_⟩; obtain ⟨hcz14_0, hcz14_1, hcz14_2, hcz14_3, hcz14_4⟩ := c5_ BK111.out; obtain ⟨hfz14_0, hfz14_1, hfz14_2, hfz14_3, hfz14_4⟩ := f5_ BK111.out; have p114 : 0 ≤ ((ji10) : Int) := od_ (by first | (with_reducible assumption) | assumption); have q114 : (ji10) < (l0_2.length : Int) := od_ (by first | (with_reducible assumption) | assumption); obtain ⟨ad114, e114, hx114_0⟩ := Kd.at_string HR0_2.out (ji10) p114 q114; obtain rfl : ad112 = ad114 := (by injection e114); replace hx114_0 := (HB.out.cell (World.block_lt_of_cell? w _ hx114_0)).trans hx114_0; replace p114 := eq_true p114; replace q114 := eq_true q114))
       go_roundg k1
       case measure => have := HK1.out; omega
       case rel => exact ⟨(wrap64 (x8_1 + 1)), (by first | rfl | (simp; done) | (simp [*]; done) | exact congrArg Value.bool (nonempty_l _) | (refine congrArg (Value.int _) ?_; first | omega | (unfold wrap64; omega))), H', ⟨by have := HK1.out; omega⟩, ⟨by (with_reducible repeat (first | refine bN_ ?_ _ | refine bD_ ?_ | refine bA_ ?_ _)); exact BK111.out⟩, ⟨by repeat (first | (with_reducible first | exact HB.out | apply lA_ | apply lN_ | apply lD_ | refine lS_ ?_ GE111.out) | exact HB.out)⟩⟩
      rw [if_neg c13] at H
      have c13b0 : (Op.bytesLess ((rdOf ByteArray.empty l0_2 (ji10)).toList) ((rdOf ByteArray.empty l0_2 x8_1).toList)) = false := by simpa using c13
      clear c13
      obtain rfl := Option.some.inj H
      have p112 : 0 ≤ (x8_1 : Int) := od_ (by first | (with_reducible assumption) | assumption)
      have q112 : x8_1 < (l0_2.length : Int) := od_ (by first | (with_reducible assumption) | assumption)
      obtain ⟨ad112, e112, hx112_0⟩ := Kd.at_string HR0_2.out x8_1 p112 q112
      cases e112
      replace hx112_0 := (HB.out.cell (World.block_lt_of_cell? w _ hx112_0)).trans hx112_0
      replace p112 := eq_true p112
      replace q112 := eq_true q112
      go_wp2_with (first | ((with_reducible refine gate_callee (f := 27) rfl ?_); refine goesL_ (some 14) rfl rfl Tryd.func27 (by kernel_rfl) rfl #[.string (rdOf ByteArray.empty l0_2 x8_1)] rfl (by (try simp only [gm_]); first | done | rfl | (simp only [gl_]; rfl)) ?_; (with_reducible refine (event_hash.calls (rdOf ByteArray.empty l0_2 x8_1) true _ A7.out).mono ?_); rintro e w' ⟨rfl, ⟨nd, rfl⟩⟩; refine ⟨_, rfl, ?_⟩; obtain ⟨hcz15_0, hcz15_1, hcz15_2, hcz15_3, hcz15_4⟩ := c5_ BK111.out; obtain ⟨hfz15_0, hfz15_1, hfz15_2, hfz15_3, hfz15_4⟩ := f5_ BK111.out; have p114 : 0 ≤ ((ji10) : Int) := od_ (by first | (with_reducible assumption) | assumption); have q114 : (ji10) < (l0_2.length : Int) := od_ (by first | (with_reducible assumption) | assumption); obtain ⟨ad114, e114, hx114_0⟩ := Kd.at_string HR0_2.out (ji10) p114 q114; obtain rfl : ad112 = ad114 := (by injection e114); replace hx114_0 := (HB.out.cell (World.block_lt_of_cell? w _ hx114_0)).trans hx114_0; replace p114 := eq_true p114; replace q114 := eq_true q114))
      go_ret
      exact ⟨by first | rfl | (simp [errW_none, errW_some] <;> rfl) | (simp only [← hji10]; first | rfl | (simp [errW_none, errW_some] <;> rfl)) | (simp [*, errW_none, errW_some] <;> rfl), by repeat (first | (with_reducible first | exact HB.out | apply lA_ | apply lN_ | apply lD_ | refine lS_ ?_ GE111.out) | exact HB.out)⟩
     rw [if_neg c9] at H
     have c9b0 : decide (0 < x8_1) = false := decide_eq_false c9
     clear c9
     have H' := Aside0.mk H
     clear H
     have p112 : 0 ≤ (x8_1 : Int) := od_ (by first | (with_reducible assumption) | assumption)
     have q112 : x8_1 < (l0_2.length : Int) := od_ (by first | (with_reducible assumption) | assumption)
     obtain ⟨ad112, e112, hx112_0⟩ := Kd.at_string HR0_2.out x8_1 p112 q112
     cases e112
     replace hx112_0 := (HB.out.cell (World.block_lt_of_cell? w _ hx112_0)).trans hx112_0
     replace p112 := eq_true p112
     replace q112 := eq_true q112
     go_wp2_with (first | ((with_reducible refine gate_callee (f := 27) rfl ?_); refine goesL_ (some 14) rfl rfl Tryd.func27 (by kernel_rfl) rfl #[.string (rdOf ByteArray.empty l0_2 x8_1)] rfl (by (try simp only [gm_]); first | done | rfl | (simp only [gl_]; rfl)) ?_; (with_reducible refine (event_hash.calls (rdOf ByteArray.empty l0_2 x8_1) true _ A7.out).mono ?_); rintro e w' ⟨rfl, ⟨nd, rfl⟩⟩; refine ⟨_, rfl, ?_⟩))
     go_roundg k1
     case measure => have := HK1.out; omega
     case rel => exact ⟨(wrap64 (x8_1 + 1)), (by first | rfl | (simp; done) | (simp [*]; done) | exact congrArg Value.bool (nonempty_l _) | (refine congrArg (Value.int _) ?_; first | omega | (unfold wrap64; omega))), H', ⟨by have := HK1.out; omega⟩, ⟨by (with_reducible repeat (first | refine bN_ ?_ _ | refine bD_ ?_ | refine bA_ ?_ _)); exact BK111.out⟩, ⟨by repeat (first | (with_reducible first | exact HB.out | apply lA_ | apply lN_ | apply lD_ | refine lS_ ?_ GE111.out) | exact HB.out)⟩⟩
    replace c8 := Bool.eq_false_iff.mpr c8
    subst c8
    have H1 : (some false) = some r := by rw [if_neg (show ¬ (false = true) by decide)] at H; exact H
    clear H
    have H := H1
    clear H1
    obtain rfl := Option.some.inj H
    have p112 : 0 ≤ (x8_1 : Int) := od_ (by first | (with_reducible assumption) | assumption)
    have q112 : x8_1 < (l0_2.length : Int) := od_ (by first | (with_reducible assumption) | assumption)
    obtain ⟨ad112, e112, hx112_0⟩ := Kd.at_string HR0_2.out x8_1 p112 q112
    cases e112
    replace hx112_0 := (HB.out.cell (World.block_lt_of_cell? w _ hx112_0)).trans hx112_0
    replace p112 := eq_true p112
    replace q112 := eq_true q112
    go_wp2_with (first | ((with_reducible refine gate_callee (f := 27) rfl ?_); refine goesL_ (some 14) rfl rfl Tryd.func27 (by kernel_rfl) rfl #[.string (rdOf ByteArray.empty l0_2 x8_1)] rfl (by (try simp only [gm_]); first | done | rfl | (simp only [gl_]; rfl)) ?_; (with_reducible refine (event_hash.calls (rdOf ByteArray.empty l0_2 x8_1) false _ A7.out).mono ?_); rintro e w' ⟨rfl, ⟨nd, rfl⟩⟩; refine ⟨_, rfl, ?_⟩))
    go_ret
    exact ⟨by first | rfl | (simp [errW_none, errW_some] <;> rfl) | (simp [*, errW_none, errW_some] <;> rfl), by repeat (first | (with_reducible first | exact HB.out | apply lA_ | apply lN_ | apply lD_ | refine lS_ ?_ GE111.out) | exact HB.out)⟩
   rw [if_neg c4] at H
   have c4b0 : decide (x8_1 < (l0_2.length : Int)) = false := decide_eq_false c4
   clear c4
   by_cases c16 : a0_0 = 1
   ·rw [if_pos c16] at H
    have c16b0 : (a0_0 == 1) = true := beq_iff_eq.mpr c16
    have c16b1 : (a0_0 != 1) = false := bne_eq_false_iff_eq.mpr c16
    clear c16
    by_cases c17 : (l0_2.length : Int) > 0
    ·rw [if_pos c17] at H
     have c17b0 : decide (0 < (l0_2.length : Int)) = true := decide_eq_true c17
     have c17b1 : decide (0 < l0_2.length) = true := decide_eq_true (by omega)
     clear c17
     obtain rfl := Option.some.inj H
     obtain ⟨hcz18_0, hcz18_1, hcz18_2, hcz18_3, hcz18_4⟩ := c5_ BK111.out
     obtain ⟨hfz18_0, hfz18_1, hfz18_2, hfz18_3, hfz18_4⟩ := f5_ BK111.out
     go_wp2
     go_ret
     exact ⟨by first | rfl | (simp [errW_none, errW_some] <;> rfl) | (simp [*, errW_none, errW_some] <;> rfl), by repeat (first | (with_reducible first | exact HB.out | apply lA_ | apply lN_ | apply lD_ | refine lS_ ?_ GE111.out) | exact HB.out)⟩
    rw [if_neg c17] at H
    have c17b0 : decide (0 < (l0_2.length : Int)) = false := decide_eq_false c17
    have c17b1 : decide (0 < l0_2.length) = false := decide_eq_false (by omega)
    clear c17
    replace H := ob_ H
    obtain ⟨t115, A190, H⟩ := H
    replace H : (if t115 = true then (if (l0_2.length : Int) ≤ 8 then (if (a0_3.size : Int) ≤ 200 then (some (decide ((a0_4.size : Int) ≤ 65535))) else (some false)) else (some false)) else (some false)) = some r := H
    have A19 := Aside0.mk A190
    clear A190
    by_cases c20 : t115 = true
    ·subst c20
     have H1 : (if (l0_2.length : Int) ≤ 8 then (if (a0_3.size : Int) ≤ 200 then (some (decide ((a0_4.size : Int) ≤ 65535))) else (some false)) else (some false)) = some r := by rw [if_pos rfl] at H; exact H
     clear H
     have H := H1
     clear H1
     by_cases c21 : (l0_2.length : Int) ≤ 8
     ·rw [if_pos c21] at H
      have c21b0 : decide ((l0_2.length : Int) ≤ 8) = true := decide_eq_true c21
      have c21b1 : decide (l0_2.length ≤ 8) = true := decide_eq_true (by omega)
      clear c21
      by_cases c22 : (a0_3.size : Int) ≤ 200
      ·rw [if_pos c22] at H
       have c22b0 : decide ((a0_3.size : Int) ≤ 200) = true := decide_eq_true c22
       have c22b1 : decide (a0_3.size ≤ 200) = true := decide_eq_true (by omega)
       clear c22
       obtain rfl := Option.some.inj H
       obtain ⟨hcz23_0, hcz23_1, hcz23_2, hcz23_3, hcz23_4⟩ := c5_ BK111.out
       obtain ⟨hfz23_0, hfz23_1, hfz23_2, hfz23_3, hfz23_4⟩ := f5_ BK111.out
       go_wp2_with (first | ((with_reducible refine gate_callee (f := 27) rfl ?_); refine goesL_ (some 55) rfl rfl Tryd.func27 (by kernel_rfl) rfl #[.string a0_1] rfl (by (try simp only [gm_]); first | done | rfl | (simp only [gl_]; rfl)) ?_; (with_reducible refine (event_hash.calls a0_1 true _ A19.out).mono ?_); rintro e w' ⟨rfl, ⟨nd, rfl⟩⟩; refine ⟨_, rfl, ?_⟩))
       go_ret
       exact ⟨by first | rfl | (simp [errW_none, errW_some] <;> rfl) | (simp [*, errW_none, errW_some] <;> rfl), by repeat (first | (with_reducible first | exact HB.out | apply lA_ | apply lN_ | apply lD_ | refine lS_ ?_ GE111.out) | exact HB.out)⟩
      rw [if_neg c22] at H
      have c22b0 : decide ((a0_3.size : Int) ≤ 200) = false := decide_eq_false c22
      have c22b1 : decide (a0_3.size ≤ 200) = false := decide_eq_false (by omega)
      clear c22
      obtain rfl := Option.some.inj H
      obtain ⟨hcz24_0, hcz24_1, hcz24_2, hcz24_3, hcz24_4⟩ := c5_ BK111.out
      obtain ⟨hfz24_0, hfz24_1, hfz24_2, hfz24_3, hfz24_4⟩ := f5_ BK111.out
      go_wp2_with (first | ((with_reducible refine gate_callee (f := 27) rfl ?_); refine goesL_ (some 55) rfl rfl Tryd.func27 (by kernel_rfl) rfl #[.string a0_1] rfl (by (try simp only [gm_]); first | done | rfl | (simp only [gl_]; rfl)) ?_; (with_reducible refine (event_hash.calls a0_1 true _ A19.out).mono ?_); rintro e w' ⟨rfl, ⟨nd, rfl⟩⟩; refine ⟨_, rfl, ?_⟩))
      go_ret
      exact ⟨by first | rfl | (simp [errW_none, errW_some] <;> rfl) | (simp [*, errW_none, errW_some] <;> rfl), by repeat (first | (with_reducible first | exact HB.out | apply lA_ | apply lN_ | apply lD_ | refine lS_ ?_ GE111.out) | exact HB.out)⟩
     rw [if_neg c21] at H
     have c21b0 : decide ((l0_2.length : Int) ≤ 8) = false := decide_eq_false c21
     have c21b1 : decide (l0_2.length ≤ 8) = false := decide_eq_false (by omega)
     clear c21
     obtain rfl := Option.some.inj H
     obtain ⟨hcz25_0, hcz25_1, hcz25_2, hcz25_3, hcz25_4⟩ := c5_ BK111.out
     obtain ⟨hfz25_0, hfz25_1, hfz25_2, hfz25_3, hfz25_4⟩ := f5_ BK111.out
     go_wp2_with (first | ((with_reducible refine gate_callee (f := 27) rfl ?_); refine goesL_ (some 55) rfl rfl Tryd.func27 (by kernel_rfl) rfl #[.string a0_1] rfl (by (try simp only [gm_]); first | done | rfl | (simp only [gl_]; rfl)) ?_; (with_reducible refine (event_hash.calls a0_1 true _ A19.out).mono ?_); rintro e w' ⟨rfl, ⟨nd, rfl⟩⟩; refine ⟨_, rfl, ?_⟩))
     go_ret
     exact ⟨by first | rfl | (simp [errW_none, errW_some] <;> rfl) | (simp [*, errW_none, errW_some] <;> rfl), by repeat (first | (with_reducible first | exact HB.out | apply lA_ | apply lN_ | apply lD_ | refine lS_ ?_ GE111.out) | exact HB.out)⟩
    replace c20 := Bool.eq_false_iff.mpr c20
    subst c20
    have H1 : (some false) = some r := by rw [if_neg (show ¬ (false = true) by decide)] at H; exact H
    clear H
    have H := H1
    clear H1
    obtain rfl := Option.some.inj H
    obtain ⟨hcz26_0, hcz26_1, hcz26_2, hcz26_3, hcz26_4⟩ := c5_ BK111.out
    obtain ⟨hfz26_0, hfz26_1, hfz26_2, hfz26_3, hfz26_4⟩ := f5_ BK111.out
    go_wp2_with (first | ((with_reducible refine gate_callee (f := 27) rfl ?_); refine goesL_ (some 55) rfl rfl Tryd.func27 (by kernel_rfl) rfl #[.string a0_1] rfl (by (try simp only [gm_]); first | done | rfl | (simp only [gl_]; rfl)) ?_; (with_reducible refine (event_hash.calls a0_1 false _ A19.out).mono ?_); rintro e w' ⟨rfl, ⟨nd, rfl⟩⟩; refine ⟨_, rfl, ?_⟩))
    go_ret
    exact ⟨by first | rfl | (simp [errW_none, errW_some] <;> rfl) | (simp [*, errW_none, errW_some] <;> rfl), by repeat (first | (with_reducible first | exact HB.out | apply lA_ | apply lN_ | apply lD_ | refine lS_ ?_ GE111.out) | exact HB.out)⟩
   rw [if_neg c16] at H
   have c16b0 : (a0_0 == 1) = false := beq_eq_false_iff_ne.mpr c16
   have c16b1 : (a0_0 != 1) = true := bne_iff_ne.mpr c16
   have HC27 := Aside0.mk H
   clear H
   obtain ⟨hcz28_0, hcz28_1, hcz28_2, hcz28_3, hcz28_4⟩ := c5_ BK111.out
   obtain ⟨hfz28_0, hfz28_1, hfz28_2, hfz28_3, hfz28_4⟩ := f5_ BK111.out
   go_upto_if 35 with (fail)
   go_cut [35] (fun v35 wc => ∃ (kq : Nat) (x35_26 : Bool), v35 = .bool x35_26 ∧ Aside0 (event_Right.j1 kq a0_0 x35_26 a0_0 a0_1 l0_2 a0_3 a0_4 = some r) ∧ Aside0 (kq ≤ k1) ∧ Aside0 (wc.heap[gb111]? = some (.cells #[.int .i64 a0_0, .string a0_1, (.slice A0_2 l0_2.length c0_2), .string a0_3, .string a0_4] 24 (0, 0))) ∧ Aside0 (Below w.heap.size w wc))
   case first =>
    have H := HC27.out
    clear HC27
    by_cases c29 : a0_0 = 4
    ·rw [if_pos c29] at H
     have c29b0 : (a0_0 == 4) = true := beq_iff_eq.mpr c29
     have c29b1 : (a0_0 != 4) = false := bne_eq_false_iff_eq.mpr c29
     clear c29
     (first | rw [c29b0] | (simp only [i64_w, i32_w]; rw [c29b0]) | skip)
     have H' := Aside0.mk H
     clear H
     go_wp2
     go_meet
     case rel => exact ⟨_, ((a0_0 == 4)), (by first | rfl | (simp; done) | (simp [*]; done) | exact congrArg Value.bool (nonempty_l _) | (refine congrArg (Value.int _) ?_; first | omega | (unfold wrap64; omega))), H', ⟨by have := HK1.out; first | omega | exact Nat.le_refl _⟩, ⟨by (with_reducible repeat (first | refine bN_ ?_ _ | refine bD_ ?_ | refine bA_ ?_ _)); exact BK111.out⟩, ⟨by repeat (first | (with_reducible first | exact HB.out | apply lA_ | apply lN_ | apply lD_ | refine lS_ ?_ GE111.out) | exact HB.out)⟩⟩
    rw [if_neg c29] at H
    have c29b0 : (a0_0 == 4) = false := beq_eq_false_iff_ne.mpr c29
    have c29b1 : (a0_0 != 4) = true := bne_iff_ne.mpr c29
    (first | rw [c29b0] | (simp only [i64_w, i32_w]; rw [c29b0]) | skip)
    have H' := Aside0.mk H
    clear H
    go_wp2
    go_meet
    case rel => exact ⟨_, ((a0_0 == 5)), (by first | rfl | (simp; done) | (simp [*]; done) | exact congrArg Value.bool (nonempty_l _) | (refine congrArg (Value.int _) ?_; first | omega | (unfold wrap64; omega))), H', ⟨by have := HK1.out; first | omega | exact Nat.le_refl _⟩, ⟨by (with_reducible repeat (first | refine bN_ ?_ _ | refine bD_ ?_ | refine bA_ ?_ _)); exact BK111.out⟩, ⟨by repeat (first | (with_reducible first | exact HB.out | apply lA_ | apply lN_ | apply lD_ | refine lS_ ?_ GE111.out) | exact HB.out)⟩⟩
   case rest =>
    clear HC27
    (try clear c1); (try clear p1); (try clear q1); (try clear hx1); (try clear c2); (try clear p2); (try clear c4); (try clear c4b0); (try clear c5); (try clear c5b0); (try clear c6); (try clear c6b0); (try clear p6); (try clear c8); (try clear c9); (try clear c9b0); (try clear c11); (try clear c11b0); (try clear p11); (try clear q11); (try clear hx11); (try clear c12); (try clear c12b0); (try clear c13); (try clear c13b0); (try clear c16); (try clear c16b0); (try clear c16b1); (try clear c17); (try clear c17b0); (try clear c17b1); (try clear c20); (try clear c21); (try clear c21b0); (try clear c21b1); (try clear c22); (try clear c22b0); (try clear c22b1); (try clear c27); (try clear c29); (try clear c29b0); (try clear c29b1); (try clear hcz14_0); (try clear hcz14_1); (try clear hcz14_2); (try clear hcz14_3); (try clear hcz14_4); (try clear hcz15_0); (try clear hcz15_1); (try clear hcz15_2); (try clear hcz15_3); (try clear hcz15_4); (try clear hcz18_0); (try clear hcz18_1); (try clear hcz18_2); (try clear hcz18_3); (try clear hcz18_4); (try clear hcz23_0); (try clear hcz23_1); (try clear hcz23_2); (try clear hcz23_3); (try clear hcz23_4); (try clear hcz24_0); (try clear hcz24_1); (try clear hcz24_2); (try clear hcz24_3); (try clear hcz24_4); (try clear hcz25_0); (try clear hcz25_1); (try clear hcz25_2); (try clear hcz25_3); (try clear hcz25_4); (try clear hcz26_0); (try clear hcz26_1); (try clear hcz26_2); (try clear hcz26_3); (try clear hcz26_4); (try clear hcz28_0); (try clear hcz28_1); (try clear hcz28_2); (try clear hcz28_3); (try clear hcz28_4); (try clear hcz3_0); (try clear hcz3_1); (try clear hcz3_2); (try clear hcz3_3); (try clear hcz3_4); (try clear hfz14_0); (try clear hfz14_1); (try clear hfz14_2); (try clear hfz14_3); (try clear hfz14_4); (try clear hfz15_0); (try clear hfz15_1); (try clear hfz15_2); (try clear hfz15_3); (try clear hfz15_4); (try clear hfz18_0); (try clear hfz18_1); (try clear hfz18_2); (try clear hfz18_3); (try clear hfz18_4); (try clear hfz23_0); (try clear hfz23_1); (try clear hfz23_2); (try clear hfz23_3); (try clear hfz23_4); (try clear hfz24_0); (try clear hfz24_1); (try clear hfz24_2); (try clear hfz24_3); (try clear hfz24_4); (try clear hfz25_0); (try clear hfz25_1); (try clear hfz25_2); (try clear hfz25_3); (try clear hfz25_4); (try clear hfz26_0); (try clear hfz26_1); (try clear hfz26_2); (try clear hfz26_3); (try clear hfz26_4); (try clear hfz28_0); (try clear hfz28_1); (try clear hfz28_2); (try clear hfz28_3); (try clear hfz28_4); (try clear hfz3_0); (try clear hfz3_1); (try clear hfz3_2); (try clear hfz3_3); (try clear hfz3_4); (try clear hx112_0); (try clear hx114_0); (try clear p112); (try clear p114); (try clear p2); (try clear q112); (try clear q114)
    obtain ⟨kq, x35_26, rfl, HA, HJ26, BK111, HB⟩ := hcut
    cases kq with
    | zero => exact absurd HA.out (by simp [event_Right.j1])
    | succ kj26 =>
     have H := HA.out
     clear HA
     simp only [event_Right.j1] at H
     by_cases c30 : x35_26 = true
     ·subst c30
      have H1 : ((event_hash.f a0_3).bind fun t117 => (if t117 = true then (if (l0_2.length : Int) = 0 then (some false) else ((event_hash.f a0_1).bind fun t118 => (if t118 = true then (if (l0_2.length : Int) ≤ 8 then (if (a0_3.size : Int) ≤ 200 then (some (decide ((a0_4.size : Int) ≤ 65535))) else (some false)) else (some false)) else (some false)))) else (some false))) = some r := by rw [if_pos rfl] at H; exact H
      clear H
      have H := H1
      clear H1
      replace H := ob_ H
      obtain ⟨t117, A310, H⟩ := H
      replace H : (if t117 = true then (if (l0_2.length : Int) = 0 then (some false) else ((event_hash.f a0_1).bind fun t118 => (if t118 = true then (if (l0_2.length : Int) ≤ 8 then (if (a0_3.size : Int) ≤ 200 then (some (decide ((a0_4.size : Int) ≤ 65535))) else (some false)) else (some false)) else (some false)))) else (some false)) = some r := H
      have A31 := Aside0.mk A310
      clear A310
      by_cases c32 : t117 = true
      ·subst c32
       have H1 : (if (l0_2.length : Int) = 0 then (some false) else ((event_hash.f a0_1).bind fun t118 => (if t118 = true then (if (l0_2.length : Int) ≤ 8 then (if (a0_3.size : Int) ≤ 200 then (some (decide ((a0_4.size : Int) ≤ 65535))) else (some false)) else (some false)) else (some false)))) = some r := by rw [if_pos rfl] at H; exact H
       clear H
       have H := H1
       clear H1
       by_cases c33 : (l0_2.length : Int) = 0
       ·rw [if_pos c33] at H
        have c33b0 : ((l0_2.length : Int) == 0) = true := beq_iff_eq.mpr c33
        have c33b1 : ((l0_2.length : Int) != 0) = false := bne_eq_false_iff_eq.mpr c33
        clear c33
        obtain rfl := Option.some.inj H
        obtain ⟨hcz34_0, hcz34_1, hcz34_2, hcz34_3, hcz34_4⟩ := c5_ BK111.out
        obtain ⟨hfz34_0, hfz34_1, hfz34_2, hfz34_3, hfz34_4⟩ := f5_ BK111.out
        go_wp2_with (first | ((with_reducible refine gate_callee (f := 27) rfl ?_); refine goesL_ (some 47) rfl rfl Tryd.func27 (by kernel_rfl) rfl #[.string a0_3] rfl (by (try simp only [gm_]); first | done | rfl | (simp only [gl_]; rfl)) ?_; (with_reducible refine (event_hash.calls a0_3 true _ A31.out).mono ?_); rintro e w' ⟨rfl, ⟨nd, rfl⟩⟩; refine ⟨_, rfl, ?_⟩))
        go_ret
        exact ⟨by first | rfl | (simp [errW_none, errW_some] <;> rfl) | (simp [*, errW_none, errW_some] <;> rfl), by repeat (first | (with_reducible first | exact HB.out | apply lA_ | apply lN_ | apply lD_ | refine lS_ ?_ GE111.out) | exact HB.out)⟩
       rw [if_neg c33] at H
       have c33b0 : ((l0_2.length : Int) == 0) = false := beq_eq_false_iff_ne.mpr c33
       have c33b1 : ((l0_2.length : Int) != 0) = true := bne_iff_ne.mpr c33
       have c33b2 : ¬ (l0_2 = []) := fun h_ => c33 (by rw [h_]; rfl)
       replace H := ob_ H
       obtain ⟨t118, A350, H⟩ := H
       replace H : (if t118 = true then (if (l0_2.length : Int) ≤ 8 then (if (a0_3.size : Int) ≤ 200 then (some (decide ((a0_4.size : Int) ≤ 65535))) else (some false)) else (some false)) else (some false)) = some r := H
       have A35 := Aside0.mk A350
       clear A350
       by_cases c36 : t118 = true
       ·subst c36
        have H1 : (if (l0_2.length : Int) ≤ 8 then (if (a0_3.size : Int) ≤ 200 then (some (decide ((a0_4.size : Int) ≤ 65535))) else (some false)) else (some false)) = some r := by rw [if_pos rfl] at H; exact H
        clear H
        have H := H1
        clear H1
        by_cases c37 : (l0_2.length : Int) ≤ 8
        ·rw [if_pos c37] at H
         have c37b0 : decide ((l0_2.length : Int) ≤ 8) = true := decide_eq_true c37
         have c37b1 : decide (l0_2.length ≤ 8) = true := decide_eq_true (by omega)
         clear c37
         by_cases c38 : (a0_3.size : Int) ≤ 200
         ·rw [if_pos c38] at H
          have c38b0 : decide ((a0_3.size : Int) ≤ 200) = true := decide_eq_true c38
          have c38b1 : decide (a0_3.size ≤ 200) = true := decide_eq_true (by omega)
          clear c38
          obtain rfl := Option.some.inj H
          obtain ⟨hcz39_0, hcz39_1, hcz39_2, hcz39_3, hcz39_4⟩ := c5_ BK111.out
          obtain ⟨hfz39_0, hfz39_1, hfz39_2, hfz39_3, hfz39_4⟩ := f5_ BK111.out
          go_wp2_with (first | ((with_reducible refine gate_callee (f := 27) rfl ?_); refine goesL_ (some 47) rfl rfl Tryd.func27 (by kernel_rfl) rfl #[.string a0_3] rfl (by (try simp only [gm_]); first | done | rfl | (simp only [gl_]; rfl)) ?_; (with_reducible refine (event_hash.calls a0_3 true _ A31.out).mono ?_); rintro e w' ⟨rfl, ⟨nd, rfl⟩⟩; refine ⟨_, rfl, ?_⟩) | ((with_reducible refine gate_callee (f := 27) rfl ?_); refine goesL_ (some 55) rfl rfl Tryd.func27 (by kernel_rfl) rfl #[.string a0_1] rfl (by (try simp only [gm_]); first | done | rfl | (simp only [gl_]; rfl)) ?_; (with_reducible refine (event_hash.calls a0_1 true _ A35.out).mono ?_); rintro e w' ⟨rfl, ⟨nd, rfl⟩⟩; refine ⟨_, rfl, ?_⟩))
          go_ret
          exact ⟨by first | rfl | (simp [errW_none, errW_some] <;> rfl) | (simp [*, errW_none, errW_some] <;> rfl), by repeat (first | (with_reducible first | exact HB.out | apply lA_ | apply lN_ | apply lD_ | refine lS_ ?_ GE111.out) | exact HB.out)⟩
         rw [if_neg c38] at H
         have c38b0 : decide ((a0_3.size : Int) ≤ 200) = false := decide_eq_false c38
         have c38b1 : decide (a0_3.size ≤ 200) = false := decide_eq_false (by omega)
         clear c38
         obtain rfl := Option.some.inj H
         obtain ⟨hcz40_0, hcz40_1, hcz40_2, hcz40_3, hcz40_4⟩ := c5_ BK111.out
         obtain ⟨hfz40_0, hfz40_1, hfz40_2, hfz40_3, hfz40_4⟩ := f5_ BK111.out
         go_wp2_with (first | ((with_reducible refine gate_callee (f := 27) rfl ?_); refine goesL_ (some 47) rfl rfl Tryd.func27 (by kernel_rfl) rfl #[.string a0_3] rfl (by (try simp only [gm_]); first | done | rfl | (simp only [gl_]; rfl)) ?_; (with_reducible refine (event_hash.calls a0_3 true _ A31.out).mono ?_); rintro e w' ⟨rfl, ⟨nd, rfl⟩⟩; refine ⟨_, rfl, ?_⟩) | ((with_reducible refine gate_callee (f := 27) rfl ?_); refine goesL_ (some 55) rfl rfl Tryd.func27 (by kernel_rfl) rfl #[.string a0_1] rfl (by (try simp only [gm_]); first | done | rfl | (simp only [gl_]; rfl)) ?_; (with_reducible refine (event_hash.calls a0_1 true _ A35.out).mono ?_); rintro e w' ⟨rfl, ⟨nd, rfl⟩⟩; refine ⟨_, rfl, ?_⟩))
         go_ret
         exact ⟨by first | rfl | (simp [errW_none, errW_some] <;> rfl) | (simp [*, errW_none, errW_some] <;> rfl), by repeat (first | (with_reducible first | exact HB.out | apply lA_ | apply lN_ | apply lD_ | refine lS_ ?_ GE111.out) | exact HB.out)⟩
        rw [if_neg c37] at H
        have c37b0 : decide ((l0_2.length : Int) ≤ 8) = false := decide_eq_false c37
        have c37b1 : decide (l0_2.length ≤ 8) = false := decide_eq_false (by omega)
        clear c37
        obtain rfl := Option.some.inj H
        obtain ⟨hcz41_0, hcz41_1, hcz41_2, hcz41_3, hcz41_4⟩ := c5_ BK111.out
        obtain ⟨hfz41_0, hfz41_1, hfz41_2, hfz41_3, hfz41_4⟩ := f5_ BK111.out
        go_wp2_with (first | ((with_reducible refine gate_callee (f := 27) rfl ?_); refine goesL_ (some 47) rfl rfl Tryd.func27 (by kernel_rfl) rfl #[.string a0_3] rfl (by (try simp only [gm_]); first | done | rfl | (simp only [gl_]; rfl)) ?_; (with_reducible refine (event_hash.calls a0_3 true _ A31.out).mono ?_); rintro e w' ⟨rfl, ⟨nd, rfl⟩⟩; refine ⟨_, rfl, ?_⟩) | ((with_reducible refine gate_callee (f := 27) rfl ?_); refine goesL_ (some 55) rfl rfl Tryd.func27 (by kernel_rfl) rfl #[.string a0_1] rfl (by (try simp only [gm_]); first | done | rfl | (simp only [gl_]; rfl)) ?_; (with_reducible refine (event_hash.calls a0_1 true _ A35.out).mono ?_); rintro e w' ⟨rfl, ⟨nd, rfl⟩⟩; refine ⟨_, rfl, ?_⟩))
        go_ret
        exact ⟨by first | rfl | (simp [errW_none, errW_some] <;> rfl) | (simp [*, errW_none, errW_some] <;> rfl), by repeat (first | (with_reducible first | exact HB.out | apply lA_ | apply lN_ | apply lD_ | refine lS_ ?_ GE111.out) | exact HB.out)⟩
       replace c36 := Bool.eq_false_iff.mpr c36
       subst c36
       have H1 : (some false) = some r := by rw [if_neg (show ¬ (false = true) by decide)] at H; exact H
       clear H
       have H := H1
       clear H1
       obtain rfl := Option.some.inj H
       obtain ⟨hcz42_0, hcz42_1, hcz42_2, hcz42_3, hcz42_4⟩ := c5_ BK111.out
       obtain ⟨hfz42_0, hfz42_1, hfz42_2, hfz42_3, hfz42_4⟩ := f5_ BK111.out
       go_wp2_with (first | ((with_reducible refine gate_callee (f := 27) rfl ?_); refine goesL_ (some 47) rfl rfl Tryd.func27 (by kernel_rfl) rfl #[.string a0_3] rfl (by (try simp only [gm_]); first | done | rfl | (simp only [gl_]; rfl)) ?_; (with_reducible refine (event_hash.calls a0_3 true _ A31.out).mono ?_); rintro e w' ⟨rfl, ⟨nd, rfl⟩⟩; refine ⟨_, rfl, ?_⟩) | ((with_reducible refine gate_callee (f := 27) rfl ?_); refine goesL_ (some 55) rfl rfl Tryd.func27 (by kernel_rfl) rfl #[.string a0_1] rfl (by (try simp only [gm_]); first | done | rfl | (simp only [gl_]; rfl)) ?_; (with_reducible refine (event_hash.calls a0_1 false _ A35.out).mono ?_); rintro e w' ⟨rfl, ⟨nd, rfl⟩⟩; refine ⟨_, rfl, ?_⟩))
       go_ret
       exact ⟨by first | rfl | (simp [errW_none, errW_some] <;> rfl) | (simp [*, errW_none, errW_some] <;> rfl), by repeat (first | (with_reducible first | exact HB.out | apply lA_ | apply lN_ | apply lD_ | refine lS_ ?_ GE111.out) | exact HB.out)⟩
      replace c32 := Bool.eq_false_iff.mpr c32
      subst c32
      have H1 : (some false) = some r := by rw [if_neg (show ¬ (false = true) by decide)] at H; exact H
      clear H
      have H := H1
      clear H1
      obtain rfl := Option.some.inj H
      obtain ⟨hcz43_0, hcz43_1, hcz43_2, hcz43_3, hcz43_4⟩ := c5_ BK111.out
      obtain ⟨hfz43_0, hfz43_1, hfz43_2, hfz43_3, hfz43_4⟩ := f5_ BK111.out
      go_wp2_with (first | ((with_reducible refine gate_callee (f := 27) rfl ?_); refine goesL_ (some 47) rfl rfl Tryd.func27 (by kernel_rfl) rfl #[.string a0_3] rfl (by (try simp only [gm_]); first | done | rfl | (simp only [gl_]; rfl)) ?_; (with_reducible refine (event_hash.calls a0_3 false _ A31.out).mono ?_); rintro e w' ⟨rfl, ⟨nd, rfl⟩⟩; refine ⟨_, rfl, ?_⟩))
      go_ret
      exact ⟨by first | rfl | (simp [errW_none, errW_some] <;> rfl) | (simp [*, errW_none, errW_some] <;> rfl), by repeat (first | (with_reducible first | exact HB.out | apply lA_ | apply lN_ | apply lD_ | refine lS_ ?_ GE111.out) | exact HB.out)⟩
     replace c30 := Bool.eq_false_iff.mpr c30
     subst c30
     have H1 : (if a0_0 = 2 then (event_Right.j2 kj26 (a0_0 == 2) a0_0 a0_1 l0_2 a0_3 a0_4) else (event_Right.j2 kj26 (a0_0 == 3) a0_0 a0_1 l0_2 a0_3 a0_4)) = some r := by rw [if_neg (show ¬ (false = true) by decide)] at H; exact H
     clear H
     have H := H1
     clear H1
     have HC44 := Aside0.mk H
     clear H
     go_upto_if 38 with (fail)
     go_cut [38] (fun v38 wc => ∃ (kq : Nat) (x38_43 : Bool), v38 = .bool x38_43 ∧ Aside0 (event_Right.j2 kq x38_43 a0_0 a0_1 l0_2 a0_3 a0_4 = some r) ∧ Aside0 (kq ≤ kj26) ∧ Aside0 (wc.heap[gb111]? = some (.cells #[.int .i64 a0_0, .string a0_1, (.slice A0_2 l0_2.length c0_2), .string a0_3, .string a0_4] 24 (0, 0))) ∧ Aside0 (Below w.heap.size w wc))
     case first =>
      have H := HC44.out
      clear HC44
      by_cases c45 : a0_0 = 2
      ·rw [if_pos c45] at H
       have c45b0 : (a0_0 == 2) = true := beq_iff_eq.mpr c45
       have c45b1 : (a0_0 != 2) = false := bne_eq_false_iff_eq.mpr c45
       clear c45
       (first | rw [c45b0] | (simp only [i64_w, i32_w]; rw [c45b0]) | skip)
       have H' := Aside0.mk H
       clear H
       go_wp2
       go_meet
       case rel => exact ⟨_, ((a0_0 == 2)), (by first | rfl | (simp; done) | (simp [*]; done) | exact congrArg Value.bool (nonempty_l _) | (refine congrArg (Value.int _) ?_; first | omega | (unfold wrap64; omega))), H', ⟨by have := HK1.out; have := HJ26.out; first | omega | exact Nat.le_refl _⟩, ⟨by (with_reducible repeat (first | refine bN_ ?_ _ | refine bD_ ?_ | refine bA_ ?_ _)); exact BK111.out⟩, ⟨by repeat (first | (with_reducible first | exact HB.out | apply lA_ | apply lN_ | apply lD_ | refine lS_ ?_ GE111.out) | exact HB.out)⟩⟩
      rw [if_neg c45] at H
      have c45b0 : (a0_0 == 2) = false := beq_eq_false_iff_ne.mpr c45
      have c45b1 : (a0_0 != 2) = true := bne_iff_ne.mpr c45
      (first | rw [c45b0] | (simp only [i64_w, i32_w]; rw [c45b0]) | skip)
      have H' := Aside0.mk H
      clear H
      go_wp2
      go_meet
      case rel => exact ⟨_, ((a0_0 == 3)), (by first | rfl | (simp; done) | (simp [*]; done) | exact congrArg Value.bool (nonempty_l _) | (refine congrArg (Value.int _) ?_; first | omega | (unfold wrap64; omega))), H', ⟨by have := HK1.out; have := HJ26.out; first | omega | exact Nat.le_refl _⟩, ⟨by (with_reducible repeat (first | refine bN_ ?_ _ | refine bD_ ?_ | refine bA_ ?_ _)); exact BK111.out⟩, ⟨by repeat (first | (with_reducible first | exact HB.out | apply lA_ | apply lN_ | apply lD_ | refine lS_ ?_ GE111.out) | exact HB.out)⟩⟩
     case rest =>
      clear HC44
      (try clear c1); (try clear p1); (try clear q1); (try clear hx1); (try clear c2); (try clear p2); (try clear c3); (try clear c4); (try clear c4b0); (try clear c5); (try clear c5b0); (try clear c6); (try clear c6b0); (try clear p6); (try clear c8); (try clear c9); (try clear c9b0); (try clear c11); (try clear c11b0); (try clear p11); (try clear q11); (try clear hx11); (try clear c12); (try clear c12b0); (try clear c13); (try clear c13b0); (try clear c16); (try clear c16b0); (try clear c16b1); (try clear c17); (try clear c17b0); (try clear c17b1); (try clear c20); (try clear c21); (try clear c21b0); (try clear c21b1); (try clear c22); (try clear c22b0); (try clear c22b1); (try clear c27); (try clear c29); (try clear c29b0); (try clear c29b1); (try clear c30); (try clear c32); (try clear c33); (try clear c33b0); (try clear c33b1); (try clear c33b2); (try clear c36); (try clear c37); (try clear c37b0); (try clear c37b1); (try clear c38); (try clear c38b0); (try clear c38b1); (try clear c45); (try clear c45b0); (try clear c45b1); (try clear hcz14_0); (try clear hcz14_1); (try clear hcz14_2); (try clear hcz14_3); (try clear hcz14_4); (try clear hcz15_0); (try clear hcz15_1); (try clear hcz15_2); (try clear hcz15_3); (try clear hcz15_4); (try clear hcz18_0); (try clear hcz18_1); (try clear hcz18_2); (try clear hcz18_3); (try clear hcz18_4); (try clear hcz23_0); (try clear hcz23_1); (try clear hcz23_2); (try clear hcz23_3); (try clear hcz23_4); (try clear hcz24_0); (try clear hcz24_1); (try clear hcz24_2); (try clear hcz24_3); (try clear hcz24_4); (try clear hcz25_0); (try clear hcz25_1); (try clear hcz25_2); (try clear hcz25_3); (try clear hcz25_4); (try clear hcz26_0); (try clear hcz26_1); (try clear hcz26_2); (try clear hcz26_3); (try clear hcz26_4); (try clear hcz28_0); (try clear hcz28_1); (try clear hcz28_2); (try clear hcz28_3); (try clear hcz28_4); (try clear hcz34_0); (try clear hcz34_1); (try clear hcz34_2); (try clear hcz34_3); (try clear hcz34_4); (try clear hcz39_0); (try clear hcz39_1); (try clear hcz39_2); (try clear hcz39_3); (try clear hcz39_4); (try clear hcz3_0); (try clear hcz3_1); (try clear hcz3_2); (try clear hcz3_3); (try clear hcz3_4); (try clear hcz40_0); (try clear hcz40_1); (try clear hcz40_2); (try clear hcz40_3); (try clear hcz40_4); (try clear hcz41_0); (try clear hcz41_1); (try clear hcz41_2); (try clear hcz41_3); (try clear hcz41_4); (try clear hcz42_0); (try clear hcz42_1); (try clear hcz42_2); (try clear hcz42_3); (try clear hcz42_4); (try clear hcz43_0); (try clear hcz43_1); (try clear hcz43_2); (try clear hcz43_3); (try clear hcz43_4); (try clear hfz14_0); (try clear hfz14_1); (try clear hfz14_2); (try clear hfz14_3); (try clear hfz14_4); (try clear hfz15_0); (try clear hfz15_1); (try clear hfz15_2); (try clear hfz15_3); (try clear hfz15_4); (try clear hfz18_0); (try clear hfz18_1); (try clear hfz18_2); (try clear hfz18_3); (try clear hfz18_4); (try clear hfz23_0); (try clear hfz23_1); (try clear hfz23_2); (try clear hfz23_3); (try clear hfz23_4); (try clear hfz24_0); (try clear hfz24_1); (try clear hfz24_2); (try clear hfz24_3); (try clear hfz24_4); (try clear hfz25_0); (try clear hfz25_1); (try clear hfz25_2); (try clear hfz25_3); (try clear hfz25_4); (try clear hfz26_0); (try clear hfz26_1); (try clear hfz26_2); (try clear hfz26_3); (try clear hfz26_4); (try clear hfz28_0); (try clear hfz28_1); (try clear hfz28_2); (try clear hfz28_3); (try clear hfz28_4); (try clear hfz34_0); (try clear hfz34_1); (try clear hfz34_2); (try clear hfz34_3); (try clear hfz34_4); (try clear hfz39_0); (try clear hfz39_1); (try clear hfz39_2); (try clear hfz39_3); (try clear hfz39_4); (try clear hfz3_0); (try clear hfz3_1); (try clear hfz3_2); (try clear hfz3_3); (try clear hfz3_4); (try clear hfz40_0); (try clear hfz40_1); (try clear hfz40_2); (try clear hfz40_3); (try clear hfz40_4); (try clear hfz41_0); (try clear hfz41_1); (try clear hfz41_2); (try clear hfz41_3); (try clear hfz41_4); (try clear hfz42_0); (try clear hfz42_1); (try clear hfz42_2); (try clear hfz42_3); (try clear hfz42_4); (try clear hfz43_0); (try clear hfz43_1); (try clear hfz43_2); (try clear hfz43_3); (try clear hfz43_4); (try clear hx112_0); (try clear hx114_0); (try clear p1); (try clear p11); (try clear p112); (try clear p114); (try clear p2); (try clear p6); (try clear q1); (try clear q11); (try clear q112); (try clear q114)
      obtain ⟨kq, x38_43, rfl, HA, HJ43, BK111, HB⟩ := hcut
      cases kq with
      | zero => exact absurd HA.out (by simp [event_Right.j2])
      | succ kj43 =>
       have H := HA.out
       clear HA
       simp only [event_Right.j2] at H
       by_cases c46 : x38_43 = true
       ·subst c46
        have H1 : (if (l0_2.length : Int) = 0 then (some false) else ((event_hash.f a0_1).bind fun t116 => (if t116 = true then (if (l0_2.length : Int) ≤ 8 then (if (a0_3.size : Int) ≤ 200 then (some (decide ((a0_4.size : Int) ≤ 65535))) else (some false)) else (some false)) else (some false)))) = some r := by rw [if_pos rfl] at H; exact H
        clear H
        have H := H1
        clear H1
        by_cases c47 : (l0_2.length : Int) = 0
        ·rw [if_pos c47] at H
         have c47b0 : ((l0_2.length : Int) == 0) = true := beq_iff_eq.mpr c47
         have c47b1 : ((l0_2.length : Int) != 0) = false := bne_eq_false_iff_eq.mpr c47
         clear c47
         obtain rfl := Option.some.inj H
         obtain ⟨hcz48_0, hcz48_1, hcz48_2, hcz48_3, hcz48_4⟩ := c5_ BK111.out
         obtain ⟨hfz48_0, hfz48_1, hfz48_2, hfz48_3, hfz48_4⟩ := f5_ BK111.out
         go_wp2
         go_ret
         exact ⟨by first | rfl | (simp [errW_none, errW_some] <;> rfl) | (simp [*, errW_none, errW_some] <;> rfl), by repeat (first | (with_reducible first | exact HB.out | apply lA_ | apply lN_ | apply lD_ | refine lS_ ?_ GE111.out) | exact HB.out)⟩
        rw [if_neg c47] at H
        have c47b0 : ((l0_2.length : Int) == 0) = false := beq_eq_false_iff_ne.mpr c47
        have c47b1 : ((l0_2.length : Int) != 0) = true := bne_iff_ne.mpr c47
        have c47b2 : ¬ (l0_2 = []) := fun h_ => c47 (by rw [h_]; rfl)
        replace H := ob_ H
        obtain ⟨t116, A490, H⟩ := H
        replace H : (if t116 = true then (if (l0_2.length : Int) ≤ 8 then (if (a0_3.size : Int) ≤ 200 then (some (decide ((a0_4.size : Int) ≤ 65535))) else (some false)) else (some false)) else (some false)) = some r := H
        have A49 := Aside0.mk A490
        clear A490
        by_cases c50 : t116 = true
        ·subst c50
         have H1 : (if (l0_2.length : Int) ≤ 8 then (if (a0_3.size : Int) ≤ 200 then (some (decide ((a0_4.size : Int) ≤ 65535))) else (some false)) else (some false)) = some r := by rw [if_pos rfl] at H; exact H
         clear H
         have H := H1
         clear H1
         by_cases c51 : (l0_2.length : Int) ≤ 8
         ·rw [if_pos c51] at H
          have c51b0 : decide ((l0_2.length : Int) ≤ 8) = true := decide_eq_true c51
          have c51b1 : decide (l0_2.length ≤ 8) = true := decide_eq_true (by omega)
          clear c51
          by_cases c52 : (a0_3.size : Int) ≤ 200
          ·rw [if_pos c52] at H
           have c52b0 : decide ((a0_3.size : Int) ≤ 200) = true := decide_eq_true c52
           have c52b1 : decide (a0_3.size ≤ 200) = true := decide_eq_true (by omega)
           clear c52
           obtain rfl := Option.some.inj H
           obtain ⟨hcz53_0, hcz53_1, hcz53_2, hcz53_3, hcz53_4⟩ := c5_ BK111.out
           obtain ⟨hfz53_0, hfz53_1, hfz53_2, hfz53_3, hfz53_4⟩ := f5_ BK111.out
           go_wp2_with (first | ((with_reducible refine gate_callee (f := 27) rfl ?_); refine goesL_ (some 55) rfl rfl Tryd.func27 (by kernel_rfl) rfl #[.string a0_1] rfl (by (try simp only [gm_]); first | done | rfl | (simp only [gl_]; rfl)) ?_; (with_reducible refine (event_hash.calls a0_1 true _ A49.out).mono ?_); rintro e w' ⟨rfl, ⟨nd, rfl⟩⟩; refine ⟨_, rfl, ?_⟩))
           go_ret
           exact ⟨by first | rfl | (simp [errW_none, errW_some] <;> rfl) | (simp [*, errW_none, errW_some] <;> rfl), by repeat (first | (with_reducible first | exact HB.out | apply lA_ | apply lN_ | apply lD_ | refine lS_ ?_ GE111.out) | exact HB.out)⟩
          rw [if_neg c52] at H
          have c52b0 : decide ((a0_3.size : Int) ≤ 200) = false := decide_eq_false c52
          have c52b1 : decide (a0_3.size ≤ 200) = false := decide_eq_false (by omega)
          clear c52
          obtain rfl := Option.some.inj H
          obtain ⟨hcz54_0, hcz54_1, hcz54_2, hcz54_3, hcz54_4⟩ := c5_ BK111.out
          obtain ⟨hfz54_0, hfz54_1, hfz54_2, hfz54_3, hfz54_4⟩ := f5_ BK111.out
          go_wp2_with (first | ((with_reducible refine gate_callee (f := 27) rfl ?_); refine goesL_ (some 55) rfl rfl Tryd.func27 (by kernel_rfl) rfl #[.string a0_1] rfl (by (try simp only [gm_]); first | done | rfl | (simp only [gl_]; rfl)) ?_; (with_reducible refine (event_hash.calls a0_1 true _ A49.out).mono ?_); rintro e w' ⟨rfl, ⟨nd, rfl⟩⟩; refine ⟨_, rfl, ?_⟩))
          go_ret
          exact ⟨by first | rfl | (simp [errW_none, errW_some] <;> rfl) | (simp [*, errW_none, errW_some] <;> rfl), by repeat (first | (with_reducible first | exact HB.out | apply lA_ | apply lN_ | apply lD_ | refine lS_ ?_ GE111.out) | exact HB.out)⟩
         rw [if_neg c51] at H
         have c51b0 : decide ((l0_2.length : Int) ≤ 8) = false := decide_eq_false c51
         have c51b1 : decide (l0_2.length ≤ 8) = false := decide_eq_false (by omega)
         clear c51
         obtain rfl := Option.some.inj H
         obtain ⟨hcz55_0, hcz55_1, hcz55_2, hcz55_3, hcz55_4⟩ := c5_ BK111.out
         obtain ⟨hfz55_0, hfz55_1, hfz55_2, hfz55_3, hfz55_4⟩ := f5_ BK111.out
         go_wp2_with (first | ((with_reducible refine gate_callee (f := 27) rfl ?_); refine goesL_ (some 55) rfl rfl Tryd.func27 (by kernel_rfl) rfl #[.string a0_1] rfl (by (try simp only [gm_]); first | done | rfl | (simp only [gl_]; rfl)) ?_; (with_reducible refine (event_hash.calls a0_1 true _ A49.out).mono ?_); rintro e w' ⟨rfl, ⟨nd, rfl⟩⟩; refine ⟨_, rfl, ?_⟩))
         go_ret
         exact ⟨by first | rfl | (simp [errW_none, errW_some] <;> rfl) | (simp [*, errW_none, errW_some] <;> rfl), by repeat (first | (with_reducible first | exact HB.out | apply lA_ | apply lN_ | apply lD_ | refine lS_ ?_ GE111.out) | exact HB.out)⟩
        replace c50 := Bool.eq_false_iff.mpr c50
        subst c50
        have H1 : (some false) = some r := by rw [if_neg (show ¬ (false = true) by decide)] at H; exact H
        clear H
        have H := H1
        clear H1
        obtain rfl := Option.some.inj H
        obtain ⟨hcz56_0, hcz56_1, hcz56_2, hcz56_3, hcz56_4⟩ := c5_ BK111.out
        obtain ⟨hfz56_0, hfz56_1, hfz56_2, hfz56_3, hfz56_4⟩ := f5_ BK111.out
        go_wp2_with (first | ((with_reducible refine gate_callee (f := 27) rfl ?_); refine goesL_ (some 55) rfl rfl Tryd.func27 (by kernel_rfl) rfl #[.string a0_1] rfl (by (try simp only [gm_]); first | done | rfl | (simp only [gl_]; rfl)) ?_; (with_reducible refine (event_hash.calls a0_1 false _ A49.out).mono ?_); rintro e w' ⟨rfl, ⟨nd, rfl⟩⟩; refine ⟨_, rfl, ?_⟩))
        go_ret
        exact ⟨by first | rfl | (simp [errW_none, errW_some] <;> rfl) | (simp [*, errW_none, errW_some] <;> rfl), by repeat (first | (with_reducible first | exact HB.out | apply lA_ | apply lN_ | apply lD_ | refine lS_ ?_ GE111.out) | exact HB.out)⟩
       replace c46 := Bool.eq_false_iff.mpr c46
       subst c46
       have H1 : (some false) = some r := by rw [if_neg (show ¬ (false = true) by decide)] at H; exact H
       clear H
       have H := H1
       clear H1
       obtain rfl := Option.some.inj H
       go_wp2
       go_ret
       exact ⟨by first | rfl | (simp [errW_none, errW_some] <;> rfl) | (simp [*, errW_none, errW_some] <;> rfl), by repeat (first | (with_reducible first | exact HB.out | apply lA_ | apply lN_ | apply lD_ | refine lS_ ?_ GE111.out) | exact HB.out)⟩

/-! ### event_content: function 26 (walked by hand) -/
/-- Texts, one behind the other. -/
def event_content.cat : List ByteArray → List UInt8
  | [] => []
  | s :: l => s.toList ++ event_content.cat l
def event_content.u8 (x : Int) : UInt8 := UInt8.ofNat (x % 256).toNat
def event_content.f (k : Nat) (a0_0 : Int) (a0_1 : ByteArray) (l0_2 : List ByteArray) (a0_3 : ByteArray) (_a0_4 : ByteArray) : Option ByteArray :=
  (octets_Text.f k a0_1).bind fun t1 => (octets_Text.f k a0_3).bind fun t3 =>
    if (((([event_content.u8 a0_0] ++ t1.1.toList) ++ [event_content.u8 l0_2.length]) ++ event_content.cat l0_2) ++ t3.1.toList).length ≤ 140737488355328 then
      some ⟨(((([event_content.u8 a0_0] ++ t1.1.toList) ++ [event_content.u8 l0_2.length]) ++ event_content.cat l0_2) ++ t3.1.toList).toArray⟩ else none
theorem event_content.mono : ∀ a0_0 a0_1 l0_2 a0_3 a0_4 k, LeO (event_content.f k a0_0 a0_1 l0_2 a0_3 a0_4) (event_content.f (k + 1) a0_0 a0_1 l0_2 a0_3 a0_4) := by
  intro a0_0 a0_1 l0_2 a0_3 a0_4 k
  unfold event_content.f
  exact LeO.bind (octets_Text.mono _ _) fun _ => LeO.bind (octets_Text.mono _ _) fun _ => LeO.refl _
theorem event_content.text_calls (k : Nat) (s t : ByteArray) (ok : Bool) {w0 W : World} {b : Nat} {acc : List UInt8} (h : Bld.St w0 b acc W) (ht : octets_Text.f k s = some (t, ok)) (hl : acc.length + t.size ≤ 140737488355328) :
    Calls Tryd.prog 43 #[.string s, .pointer (some ⟨b, 0, none⟩)] W fun e W' => e = .returned (.tuple #[]) ∧ Bld.St w0 b (acc ++ t.toList) W' := by
  have HS := Aside0.mk h
  clear h
  have HT := Aside0.mk ht
  clear ht
  go_enter Tryd.func43, Tryd.ntmps43
  go_wp2_with (first | (go_at_call 25; (with_reducible refine (octets_Text.calls k s t ok _ HT.out).mono ?_); rintro e W1 ⟨rfl, hb⟩; have n0_ := Aside0.mk (HS.out.later hb); clear HS hb; have HS := n0_; clear n0_) | (go_at_call 44; (with_reducible refine (HS.out.str t hl).mono ?_); rintro e W2 ⟨rfl, hs⟩; have n0_ := Aside0.mk hs; clear HS hs; have HS := n0_; clear n0_))
  go_end0
  exact ⟨rfl, HS.out⟩
theorem event_content.size_toList (s : ByteArray) : s.toList.length = s.size := by rw [ByteArray.toList_eq, data_length]
theorem event_content.drop_rd (l : List ByteArray) (x : Int) (h0 : 0 ≤ x) (h1 : x < (l.length : Int)) : l.drop x.toNat = rdOf ByteArray.empty l x :: l.drop (x + 1).toNat := by
  have hl : x.toNat < l.length := by omega
  have e : (x + 1).toNat = x.toNat + 1 := by omega
  rw [e, List.drop_eq_getElem_cons hl]
  congr 1
  simp [rdOf, List.getD, hl]
theorem event_content.wrap_step {n : Nat} {x : Int} (h : (n : Nat) ≤ 9223372036854775807) (h0 : 0 ≤ x) (h1 : x < (n : Int)) : IntKind.i64.wrap (x + 1) = x + 1 := by
  rw [IntKind.wrap_i64]; omega
set_option maxHeartbeats 8000000 in
set_option maxRecDepth 100000 in
theorem event_content.calls (k : Nat) (a0_0 : Int) (a0_1 : ByteArray) (A0_2 : Option Addr) (c0_2 : Nat) (l0_2 : List ByteArray) (a0_3 : ByteArray) (a0_4 : ByteArray) (r : ByteArray) (w : World) (hr0_2 : Kd.C Kd.string w A0_2 l0_2.length l0_2) (hc0_2 : l0_2.length ≤ c0_2) (h : event_content.f k a0_0 a0_1 l0_2 a0_3 a0_4 = some r) :
    Calls Tryd.prog 26 #[.agg #[.int .i64 a0_0, .string a0_1, .slice A0_2 l0_2.length c0_2, .string a0_3, .string a0_4]] w fun e w' => e = .returned (.string r) ∧ Below w.heap.size w w' := by
  have hmf : ∀ (fn : Fn) (first cap : Array Value) (w : World), (Instr.makeFunc fn first cap).run Tryd.prog w = .ok (.func fn first cap) w := fun _ _ _ _ => rfl
  have HR0_2 := Aside0.mk hr0_2
  have HC0_2 := Aside0.mk hc0_2
  clear hr0_2 hc0_2
  unfold event_content.f at h
  obtain ⟨⟨t1, ok1⟩, hT1, h⟩ := Option.bind_eq_some_iff.mp h
  obtain ⟨⟨t3, ok3⟩, hT3, h⟩ := Option.bind_eq_some_iff.mp h
  dsimp only at h
  obtain ⟨bs, hbs⟩ : ∃ bs, (((([event_content.u8 a0_0] ++ t1.toList) ++ [event_content.u8 l0_2.length]) ++ event_content.cat l0_2) ++ t3.toList) = bs := ⟨_, rfl⟩
  rw [hbs] at h
  have hbl : bs.length ≤ 140737488355328 := by
    by_cases hh : bs.length ≤ 140737488355328
    · exact hh
    · rw [if_neg hh] at h; cases h
  rw [if_pos hbl] at h
  obtain rfl := Option.some.inj h
  have HL := Aside0.mk hbl
  have HT1 := Aside0.mk hT1
  have HT3 := Aside0.mk hT3
  have HBS0 := Aside0.mk hbs
  have HBL := Aside0.mk (show 2 + t1.size + (event_content.cat l0_2).length + t3.size = bs.length by rw [← hbs]; simp [event_content.size_toList]; omega)
  have hn2 := HR0_2.out.2.1
  clear h hbl hT1 hT3 hbs
  go_enter Tryd.func26, Tryd.ntmps26
  go_wp2_with (first | ((with_reducible refine gate_dst (N := 1) rfl ?_); refine box_event ?hg (N := 1) ?hd (cs := #[.int .i64 a0_0, .string a0_1, .slice A0_2 l0_2.length c0_2, .string a0_3, .string a0_4]) (t := 24) ?hr ?_; (case hd => rfl); (case hg => rfl); (case hr => first | (go_simp; done) | (go_simp; rfl)); intro gb hg w1 hbox hb; have BX1 := Aside0.mk hbox; have HB1 := Aside0.mk hb; have GE1 := Aside0.mk (show w.heap.size ≤ gb by omega); obtain ⟨hz0, hz1, hz2, hz3, hz4⟩ := Bld.five hbox; clear hbox hb hg) | ((with_reducible refine gate_dst (N := 3) rfl ?_); refine Kd.event_run (w1 := w1.alloc (.cells #[.pointer none, .slice none 0 0] 58)) (v := .pointer (some ⟨w1.heap.size, 0, none⟩)) ?hg ?hr ?_; (case hg => rfl); (case hr => first | (go_simp; done) | (go_simp; rfl)); have HSF := Aside0.mk (Bld.St.fresh w1); obtain ⟨b, hb_⟩ : ∃ b, b = w1.heap.size := ⟨_, rfl⟩; obtain ⟨w3, hw_⟩ : ∃ w3, w3 = w1.alloc (.cells #[.pointer none, .slice none 0 0] 58) := ⟨_, rfl⟩; rw [← hw_, ← hb_] at HSF; rw [← hw_, ← hb_]; have GB := Aside0.mk (show gb < b by rw [hb_]; exact blk_lt BX1.out); have LB := Aside0.mk (show w.heap.size ≤ b by have := GB.out; have := GE1.out; omega); have HS := HSF; clear HSF hb_ hw_; obtain ⟨hz0, hz1, hz2, hz3, hz4⟩ := Bld.five (HS.out.block BX1.out GB.out)) | (go_at_call 45; (refine (HS.out.byte _ ?s0 ?s1 ?s2).mono ?_); (case s0 => first | omega | (simp only [IntKind.wrap_u8]; omega)); (case s1 => first | omega | (simp only [IntKind.wrap_u8]; omega)); (case s2 => first | (simp; done) | (have := HL.out; have := HBL.out; simp [event_content.size_toList] at *; omega)); rintro e w4 ⟨rfl, hs⟩; have n0_ := Aside0.mk hs; clear HS hs; have HS := n0_; clear n0_; obtain ⟨hz0, hz1, hz2, hz3, hz4⟩ := Bld.five (HS.out.block BX1.out GB.out)) | (go_at_call 43; (refine (event_content.text_calls k _ t1 ok1 HS.out HT1.out ?s2).mono ?_); (case s2 => have := HL.out; have := HBL.out; simp at *; omega); rintro e w5 ⟨rfl, hs⟩; have n0_ := Aside0.mk hs; clear HS hs; have HS := n0_; clear n0_; obtain ⟨hz0, hz1, hz2, hz3, hz4⟩ := Bld.five (HS.out.block BX1.out GB.out)))
  go_loopg [24] l0_2.length (fun kq v24 w' => ∃ x : Int, v24 = .int .i64 x ∧ Aside0 (0 ≤ x ∧ x + (kq : Int) = (l0_2.length : Int)) ∧ Aside0 (∃ acc, acc ++ event_content.cat (l0_2.drop x.toNat) ++ t3.toList = bs ∧ Bld.St w1 b acc w'))
  case atStart => exact ⟨0, (by first | rfl | simp), ⟨by omega⟩, ⟨_, HBS0.out, HS.out⟩⟩
  case round =>
    clear hz0 hz1 hz2 hz3 hz4
    obtain ⟨x, rfl, HP, HE⟩ := hrel
    clear HS HBL HBS0
    obtain ⟨acc, hE, hS⟩ := HE.out
    have HS := Aside0.mk hS
    have hp := HP.out
    obtain ⟨hz0, hz1, hz2, hz3, hz4⟩ := Bld.five (HS.out.block BX1.out GB.out)
    cases gk with
    | zero =>
      have hc : decide (x < (l0_2.length : Int)) = false := decide_eq_false (by omega)
      have hd : l0_2.drop x.toNat = [] := List.drop_of_length_le (by omega)
      rw [hd] at hE
      have HBS := Aside0.mk (show acc ++ t3.toList = bs by rw [← hE]; simp [event_content.cat])
      have HBL := Aside0.mk (show acc.length + t3.size = bs.length by rw [← HBS.out]; simp [event_content.size_toList])
      clear hE hS hd HE hp HP
      go_wp2_with (first | (go_at_call 43; (refine (event_content.text_calls k _ t3 ok3 HS.out HT3.out ?s2).mono ?_); (case s2 => have := HL.out; have := HBL.out; simp at *; omega); rintro e w5 ⟨rfl, hs⟩; have n0_ := Aside0.mk hs; clear HS hs; have HS := n0_; clear n0_; obtain ⟨hz0, hz1, hz2, hz3, hz4⟩ := Bld.five (HS.out.block BX1.out GB.out)) | (go_at_call 46; have n0_ := Aside0.mk (HS.out.cast (show _ = bs from HBS.out)); clear HS; have HS := n0_; clear n0_; (refine HS.out.out.mono ?_); rintro e w7 ⟨rfl, hs⟩; have n0_ := Aside0.mk hs; clear HS hs; have HS := n0_; clear n0_))
      go_ret
      exact ⟨rfl, HS.out.below HB1.out LB.out⟩
    | succ k1 =>
      have hc : decide (x < (l0_2.length : Int)) = true := decide_eq_true (by omega)
      have p0 : (0 ≤ x) = True := eq_true (by omega)
      have q0 : (x < (l0_2.length : Int)) = True := eq_true (by omega)
      have hw1 := event_content.wrap_step (n := l0_2.length) (x := x) hn2 (by omega) (by omega)
      rw [event_content.drop_rd l0_2 x (by omega) (by omega)] at hE
      have HE2 := Aside0.mk (show (acc ++ (rdOf ByteArray.empty l0_2 x).toList) ++ event_content.cat (l0_2.drop (x + 1).toNat) ++ t3.toList = bs by rw [← hE]; simp [event_content.cat, List.append_assoc])
      have HBL := Aside0.mk (show acc.length + (rdOf ByteArray.empty l0_2 x).size + (event_content.cat (l0_2.drop (x + 1).toNat)).length + t3.size = bs.length by rw [← HE2.out]; simp [event_content.size_toList]; omega)
      obtain ⟨ad, e4_, hx⟩ := Kd.at_string HR0_2.out x (by omega) (by omega)
      cases e4_
      have hx0 := ((HS.out.below HB1.out LB.out).cell (World.block_lt_of_cell? w _ hx)).trans hx
      clear hE hS HE hx hp
      go_wp2_with (first | (go_at_call 44; (refine (HS.out.str _ ?s2).mono ?_); (case s2 => have := HL.out; have := HBL.out; simp at *; omega); rintro e w5 ⟨rfl, hs⟩; have n0_ := Aside0.mk hs; clear HS hs; have HS := n0_; clear n0_; obtain ⟨hz0, hz1, hz2, hz3, hz4⟩ := Bld.five (HS.out.block BX1.out GB.out)))
      go_roundg k1
      case measure => omega
      case rel => exact ⟨x + 1, (by first | rfl | (simp; done) | (simp [*]; done) | (refine congrArg (Value.int _) ?_; rw [hw1])), ⟨by have := HP.out; omega⟩, ⟨_, HE2.out, HS.out⟩⟩

/-! ### event_Encode: function 11 -/
def event_Encode.f (k : Nat) (a0_0 : Int) (a0_1 : ByteArray) (l0_2 : List ByteArray) (a0_3 : ByteArray) (a0_4 : ByteArray) : Option (ByteArray × Int) := (event_Right.f k a0_0 a0_1 l0_2 a0_3 a0_4).bind fun t120 => (if t120 = true then ((octets_Text.f k a0_4).bind fun bt121 => ((event_content.f k a0_0 a0_1 l0_2 a0_3 a0_4).bind fun t123 => (if t123.size + bt121.1.size ≤ 9223372036854775807 then (some (t123 ++ bt121.1, 0)) else (none)))) else (some ((⟨#[]⟩ : ByteArray), 2)))
theorem event_Encode.mono : ∀ a0 a1 a2 a3 a4 k, LeO (event_Encode.f k a0 a1 a2 a3 a4) (event_Encode.f (k + 1) a0 a1 a2 a3 a4) := by
 intro a0 a1 a2 a3 a4 k
 unfold event_Encode.f
 repeat' first
  | (with_reducible exact event_Right.mono _ _ _ _ _ _)
  | (with_reducible exact event_content.mono _ _ _ _ _ _)
  | (with_reducible exact octets_Text.mono _ _)
  | (with_reducible exact LeO.refl _)
  | (with_reducible exact LeO.none _)
  | (with_reducible refine LeO.ite ?_ ?_)
  | (with_reducible refine LeO.bind ?_ (fun _ => ?_))
  | exact event_Right.mono _ _ _ _ _ _
  | exact event_content.mono _ _ _ _ _ _
  | exact octets_Text.mono _ _
  | exact LeO.none _
  | refine LeO.ite ?_ ?_
  | refine LeO.bind ?_ (fun _ => ?_)
set_option maxHeartbeats 64000000 in
set_option maxRecDepth 100000 in
theorem event_Encode.calls (k : Nat) (a0_0 : Int) (a0_1 : ByteArray) (A0_2 : Option Addr) (c0_2 : Nat) (l0_2 : List ByteArray) (a0_3 : ByteArray) (a0_4 : ByteArray) (r1 : ByteArray) (r2 : Int) (w : World) (hr0_2 : Kd.C Kd.string w A0_2 l0_2.length l0_2) (hc0_2 : l0_2.length ≤ c0_2) (h : event_Encode.f k a0_0 a0_1 l0_2 a0_3 a0_4 = some (r1, r2)) :
 Calls Tryd.prog 11 #[.agg #[.int .i64 a0_0, .string a0_1, .slice A0_2 l0_2.length c0_2, .string a0_3, .string a0_4]] w fun e w' => e = .returned (.tuple #[.string r1, .int .i64 r2]) ∧ Below w.heap.size w w' := by
 have hu24 := Tryd.underlying24
 have HR0_2 := Aside0.mk hr0_2
 have HC0_2 := Aside0.mk hc0_2
 clear hr0_2 hc0_2
 have HB := Aside0.mk (Below.refl w.heap.size w)
 have H : ((event_Right.f k a0_0 a0_1 l0_2 a0_3 a0_4).bind fun t120 => (if t120 = true then ((octets_Text.f k a0_4).bind fun bt121 => ((event_content.f k a0_0 a0_1 l0_2 a0_3 a0_4).bind fun t123 => (if t123.size + bt121.1.size ≤ 9223372036854775807 then (some (t123 ++ bt121.1, 0)) else (none)))) else (some ((⟨#[]⟩ : ByteArray), 2)))) = some (r1, r2) := h
 clear h
 replace H := ob_ H
 obtain ⟨t120, A20, H⟩ := H
 replace H : (if t120 = true then ((octets_Text.f k a0_4).bind fun bt121 => ((event_content.f k a0_0 a0_1 l0_2 a0_3 a0_4).bind fun t123 => (if t123.size + bt121.1.size ≤ 9223372036854775807 then (some (t123 ++ bt121.1, 0)) else (none)))) else (some ((⟨#[]⟩ : ByteArray), 2))) = some (r1, r2) := H
 have A2 := Aside0.mk A20
 clear A20
 by_cases c3 : t120 = true
 ·subst c3
  have H1 : ((octets_Text.f k a0_4).bind fun bt121 => ((event_content.f k a0_0 a0_1 l0_2 a0_3 a0_4).bind fun t123 => (if t123.size + bt121.1.size ≤ 9223372036854775807 then (some (t123 ++ bt121.1, 0)) else (none)))) = some (r1, r2) := by rw [if_pos rfl] at H; exact H
  clear H
  have H := H1
  clear H1
  replace H := ob_ H
  obtain ⟨⟨t121, t122⟩, A40, H⟩ := H
  replace H : ((event_content.f k a0_0 a0_1 l0_2 a0_3 a0_4).bind fun t123 => (if t123.size + t121.size ≤ 9223372036854775807 then (some (t123 ++ t121, 0)) else (none))) = some (r1, r2) := H
  have A4 := Aside0.mk A40
  clear A40
  replace H := ob_ H
  obtain ⟨t123, A50, H⟩ := H
  replace H : (if t123.size + t121.size ≤ 9223372036854775807 then (some (t123 ++ t121, 0)) else (none)) = some (r1, r2) := H
  have A5 := Aside0.mk A50
  clear A50
  by_cases c6 : t123.size + t121.size ≤ 9223372036854775807
  rotate_left
  ·rw [if_neg c6] at H
   exact absurd H (by simp)
  rw [if_pos c6] at H
  have c6b0 := eq_true c6
  have c6b1 : decide (t123.size + t121.size ≤ 9223372036854775807) = true := decide_eq_true c6
  try have c6b2 : (9223372036854775807 < t123.size + t121.size) = False := eq_false (Nat.not_lt.2 c6)
  simp only [Option.some.injEq, Prod.mk.injEq] at H
  obtain ⟨rfl, rfl⟩ := H
  go_enter Tryd.func11, Tryd.ntmps11
  go_wp2_with (first | ((with_reducible refine gate_dst (N := 1) rfl ?_); refine box_event ?hg (N := 1) ?hd (cs := #[.int .i64 a0_0, .string a0_1, .slice A0_2 l0_2.length c0_2, .string a0_3, .string a0_4]) (t := 24) ?hr ?_; (case hd => rfl); (case hg => rfl); (case hr => first | (go_simp; done) | (go_simp; rfl)); intro gb119 hg w7 hbox hb; have n0_ := Aside0.mk (below_step (by repeat (first | (with_reducible first | exact HB.out | apply lA_ | apply lN_ | apply lD_) | exact HB.out)) hb); have n1_ := Aside0.mk (hbox); have n2_ := Aside0.mk ((by rw [hg]; exact (below_size (by repeat (first | (with_reducible first | exact HB.out | apply lA_ | apply lN_ | apply lD_) | exact HB.out))) : w.heap.size ≤ gb119)); have n3_ := Aside0.mk ((by rw [hg]; exact (below_size (by repeat (first | (with_reducible first | exact HB.out | apply lA_ | apply lN_ | apply lD_) | exact HB.out))) : w.heap.size ≤ gb119)); clear HB; have HB := n0_; have BK119 := n1_; have GW119 := n2_; have GE119 := n3_; clear n0_ n1_ n2_ n3_; clear hb hbox hg; obtain ⟨hcz8_0, hcz8_1, hcz8_2, hcz8_3, hcz8_4⟩ := c5_ BK119.out; obtain ⟨hfz8_0, hfz8_1, hfz8_2, hfz8_3, hfz8_4⟩ := f5_ BK119.out) | ((with_reducible refine gate_callee (f := 13) rfl ?_); refine goesL_ (some 7) rfl rfl Tryd.func13 (by kernel_rfl) rfl #[.agg #[.int .i64 a0_0, .string a0_1, .slice A0_2 l0_2.length c0_2, .string a0_3, .string a0_4]] rfl (by (try simp only [gm_]); first | done | rfl | (simp only [gl_]; rfl)) ?_; (with_reducible refine (event_Right.calls k a0_0 a0_1 _ _ l0_2 a0_3 a0_4 true _ ?side1 ?side2 A2.out).mono ?_); (case side1 => repeat (first | exact (Kd.C_below HR0_2.out HB.out) | (with_reducible refine Kd.C_alloc ?_ _) | (with_reducible refine Kd.C_drewN ?_ _) | (with_reducible refine Kd.C_drew ?_))); (case side2 => exact HC0_2.out); rintro e w9 ⟨rfl, hb⟩; refine ⟨_, rfl, ?_⟩; have n0_ := Aside0.mk (blk_below (g := gb119) (o := .cells #[.int .i64 a0_0, .string a0_1, .slice A0_2 l0_2.length c0_2, .string a0_3, .string a0_4] 24 (0, 0)) (by (with_reducible repeat (first | refine bN_ ?_ _ | refine bD_ ?_ | refine bA_ ?_ _)); exact BK119.out) hb); have n1_ := Aside0.mk (below_step (by repeat (first | (with_reducible first | exact HB.out | apply lA_ | apply lN_ | apply lD_ | refine lS_ ?_ GE119.out) | exact HB.out)) hb); clear BK119; clear HB; have BK119 := n0_; have HB := n1_; clear n0_ n1_; (try clear hb); (try clear hb2); (try clear hk); (try clear hi); obtain ⟨hcz10_0, hcz10_1, hcz10_2, hcz10_3, hcz10_4⟩ := c5_ BK119.out; obtain ⟨hfz10_0, hfz10_1, hfz10_2, hfz10_3, hfz10_4⟩ := f5_ BK119.out) | ((with_reducible refine gate_callee (f := 25) rfl ?_); refine goesL_ (some 12) rfl rfl Tryd.func25 (by kernel_rfl) rfl #[.string a0_4] rfl (by (try simp only [gm_]); first | done | rfl | (simp only [gl_]; rfl)) ?_; (with_reducible refine (octets_Text.calls k a0_4 t121 t122 _ A4.out).mono ?_); rintro e w11 ⟨rfl, hb⟩; refine ⟨_, rfl, ?_⟩; have n0_ := Aside0.mk (blk_below (g := gb119) (o := .cells #[.int .i64 a0_0, .string a0_1, .slice A0_2 l0_2.length c0_2, .string a0_3, .string a0_4] 24 (0, 0)) (by (with_reducible repeat (first | refine bN_ ?_ _ | refine bD_ ?_ | refine bA_ ?_ _)); exact BK119.out) hb); have n1_ := Aside0.mk (below_step (by repeat (first | (with_reducible first | exact HB.out | apply lA_ | apply lN_ | apply lD_ | refine lS_ ?_ GE119.out) | exact HB.out)) hb); clear BK119; clear HB; have BK119 := n0_; have HB := n1_; clear n0_ n1_; (try clear hb); (try clear hb2); (try clear hk); (try clear hi); obtain ⟨hcz12_0, hcz12_1, hcz12_2, hcz12_3, hcz12_4⟩ := c5_ BK119.out; obtain ⟨hfz12_0, hfz12_1, hfz12_2, hfz12_3, hfz12_4⟩ := f5_ BK119.out) | ((with_reducible refine gate_callee (f := 26) rfl ?_); refine goesL_ (some 16) rfl rfl Tryd.func26 (by kernel_rfl) rfl #[.agg #[.int .i64 a0_0, .string a0_1, .slice A0_2 l0_2.length c0_2, .string a0_3, .string a0_4]] rfl (by (try simp only [gm_]); first | done | rfl | (simp only [gl_]; rfl)) ?_; (with_reducible refine (event_content.calls k a0_0 a0_1 _ _ l0_2 a0_3 a0_4 t123 _ ?side1 ?side2 A5.out).mono ?_); (case side1 => repeat (first | exact (Kd.C_below HR0_2.out HB.out) | (with_reducible refine Kd.C_alloc ?_ _) | (with_reducible refine Kd.C_drewN ?_ _) | (with_reducible refine Kd.C_drew ?_))); (case side2 => exact HC0_2.out); rintro e w13 ⟨rfl, hb⟩; refine ⟨_, rfl, ?_⟩; have n0_ := Aside0.mk (blk_below (g := gb119) (o := .cells #[.int .i64 a0_0, .string a0_1, .slice A0_2 l0_2.length c0_2, .string a0_3, .string a0_4] 24 (0, 0)) (by (with_reducible repeat (first | refine bN_ ?_ _ | refine bD_ ?_ | refine bA_ ?_ _)); exact BK119.out) hb); have n1_ := Aside0.mk (below_step (by repeat (first | (with_reducible first | exact HB.out | apply lA_ | apply lN_ | apply lD_ | refine lS_ ?_ GE119.out) | exact HB.out)) hb); clear BK119; clear HB; have BK119 := n0_; have HB := n1_; clear n0_ n1_; (try clear hb); (try clear hb2); (try clear hk); (try clear hi)))
  go_ret2
  exact ⟨by first | rfl | (simp [errW_none, errW_some] <;> rfl) | (simp [*, errW_none, errW_some] <;> rfl), by repeat (first | (with_reducible first | exact HB.out | apply lA_ | apply lN_ | apply lD_ | refine lS_ ?_ GE119.out) | exact HB.out)⟩
 replace c3 := Bool.eq_false_iff.mpr c3
 subst c3
 have H1 : (some ((⟨#[]⟩ : ByteArray), 2)) = some (r1, r2) := by rw [if_neg (show ¬ (false = true) by decide)] at H; exact H
 clear H
 have H := H1
 clear H1
 simp only [Option.some.injEq, Prod.mk.injEq] at H
 obtain ⟨rfl, rfl⟩ := H
 go_enter Tryd.func11, Tryd.ntmps11
 go_wp2_with (first | ((with_reducible refine gate_dst (N := 1) rfl ?_); refine box_event ?hg (N := 1) ?hd (cs := #[.int .i64 a0_0, .string a0_1, .slice A0_2 l0_2.length c0_2, .string a0_3, .string a0_4]) (t := 24) ?hr ?_; (case hd => rfl); (case hg => rfl); (case hr => first | (go_simp; done) | (go_simp; rfl)); intro gb119 hg w14 hbox hb; have n0_ := Aside0.mk (below_step (by repeat (first | (with_reducible first | exact HB.out | apply lA_ | apply lN_ | apply lD_) | exact HB.out)) hb); have n1_ := Aside0.mk (hbox); have n2_ := Aside0.mk ((by rw [hg]; exact (below_size (by repeat (first | (with_reducible first | exact HB.out | apply lA_ | apply lN_ | apply lD_) | exact HB.out))) : w.heap.size ≤ gb119)); have n3_ := Aside0.mk ((by rw [hg]; exact (below_size (by repeat (first | (with_reducible first | exact HB.out | apply lA_ | apply lN_ | apply lD_) | exact HB.out))) : w.heap.size ≤ gb119)); clear HB; have HB := n0_; have BK119 := n1_; have GW119 := n2_; have GE119 := n3_; clear n0_ n1_ n2_ n3_; clear hb hbox hg; obtain ⟨hcz15_0, hcz15_1, hcz15_2, hcz15_3, hcz15_4⟩ := c5_ BK119.out; obtain ⟨hfz15_0, hfz15_1, hfz15_2, hfz15_3, hfz15_4⟩ := f5_ BK119.out) | ((with_reducible refine gate_callee (f := 13) rfl ?_); refine goesL_ (some 7) rfl rfl Tryd.func13 (by kernel_rfl) rfl #[.agg #[.int .i64 a0_0, .string a0_1, .slice A0_2 l0_2.length c0_2, .string a0_3, .string a0_4]] rfl (by (try simp only [gm_]); first | done | rfl | (simp only [gl_]; rfl)) ?_; (with_reducible refine (event_Right.calls k a0_0 a0_1 _ _ l0_2 a0_3 a0_4 false _ ?side1 ?side2 A2.out).mono ?_); (case side1 => repeat (first | exact (Kd.C_below HR0_2.out HB.out) | (with_reducible refine Kd.C_alloc ?_ _) | (with_reducible refine Kd.C_drewN ?_ _) | (with_reducible refine Kd.C_drew ?_))); (case side2 => exact HC0_2.out); rintro e w16 ⟨rfl, hb⟩; refine ⟨_, rfl, ?_⟩; have n0_ := Aside0.mk (blk_below (g := gb119) (o := .cells #[.int .i64 a0_0, .string a0_1, .slice A0_2 l0_2.length c0_2, .string a0_3, .string a0_4] 24 (0, 0)) (by (with_reducible repeat (first | refine bN_ ?_ _ | refine bD_ ?_ | refine bA_ ?_ _)); exact BK119.out) hb); have n1_ := Aside0.mk (below_step (by repeat (first | (with_reducible first | exact HB.out | apply lA_ | apply lN_ | apply lD_ | refine lS_ ?_ GE119.out) | exact HB.out)) hb); clear BK119; clear HB; have BK119 := n0_; have HB := n1_; clear n0_ n1_; (try clear hb); (try clear hb2); (try clear hk); (try clear hi)))
 go_ret2
 exact ⟨by first | rfl | (simp [errW_none, errW_some] <;> rfl) | (simp [*, errW_none, errW_some] <;> rfl), by repeat (first | (with_reducible first | exact HB.out | apply lA_ | apply lN_ | apply lD_ | refine lS_ ?_ GE119.out) | exact HB.out)⟩

/-! ### sha_begin: function 72 -/
def sha_begin.f : Option Unit := some ()
set_option maxHeartbeats 8000000 in
set_option maxRecDepth 100000 in
theorem sha_begin.calls (w : World) (h : sha_begin.f = some ()) :
    Calls Tryd.prog 72 #[] w fun e w' => e = .returned (.agg #[.int .u32 1779033703, .int .u32 3144134277, .int .u32 1013904242, .int .u32 2773480762, .int .u32 1359893119, .int .u32 2600822924, .int .u32 528734635, .int .u32 1541459225]) ∧ Below w.heap.size w w' := by
  go_enter Tryd.func72, Tryd.ntmps72
  go_wp2_with (first
    | ((with_reducible refine gate_dst (N := 0) rfl ?_); refine Kd.event_run (w1 := w.alloc (.cells (encs (Value.int .u32) (List.replicate 8 0)).toArray 106)) (v := .pointer (some ⟨w.heap.size, 0, none⟩)) ?hg ?hr ?_; (case hg => rfl); (case hr => first | (go_simp; done) | (go_simp; rfl)); obtain ⟨W1, hW1⟩ : ∃ W1, W1 = w.alloc (.cells (encs (Value.int .u32) (List.replicate 8 0)).toArray 106) := ⟨_, rfl⟩; rw [← hW1]; have hh : W1.heap[w.heap.size]? = some (.cells (encs (Value.int .u32) (List.replicate 8 0)).toArray 106 (0, 0)) := (by rw [hW1]; exact heap_alloc_new w _); have hb : Below w.heap.size w W1 := (by rw [hW1]; exact below_alloc (Below.refl _ _) _); clear hW1)
    | ((with_reducible refine gate_store (t := 106) (p := 0) rfl ?_); refine store_event (t := 106) (p := 0) (v := ?vo) (w1 := W1.setCells w.heap.size 0 (encs (Value.int .u32) [1779033703, 3144134277, 1013904242, 2773480762, 1359893119, 2600822924, 528734635, 1541459225])) ?hg ?ho ?hn ?hr ?_; (case ho => rfl); (case hg => rfl); (case hn => rfl); (case hr => exact store_run0 [1779033703, 3144134277, 1013904242, 2773480762, 1359893119, 2600822924, 528734635, 1541459225] rfl rfl rfl (by kernel_rfl) hh (by rfl)); intro W2 hw; have hh2 := store_heap0 (encs (Value.int .u32) [1779033703, 3144134277, 1013904242, 2773480762, 1359893119, 2600822924, 528734635, 1541459225]) hh (by rfl); have hb2 := store_below0 (encs (Value.int .u32) [1779033703, 3144134277, 1013904242, 2773480762, 1359893119, 2600822924, 528734635, 1541459225]) hb (Nat.le_refl _); rw [← hw] at hh2 hb2; clear hw hh hb))
  (try simp only [Exit.inBlock, Exit.then])
  refine bodyPost_ret (results_cell_row rfl _ _ w.heap.size 106 (encs (Value.int .u32) [1779033703, 3144134277, 1013904242, 2773480762, 1359893119, 2600822924, 528734635, 1541459225]).toArray (0, 0) _ rfl hh2 Tryd.underlying106 rfl (by kernel_rfl)) rfl ?_
  exact ⟨rfl, hb2⟩

/-! ### bits_RotateLeft32: function 95 -/
def bits_RotateLeft32.f (a0 : Int) (a1 : Int) : Option (Int) := if 0 ≤ (Go.bits .and .u64 (IntKind.u64.wrap (a1)) 31) then (if 0 ≤ (IntKind.u64.wrap (32 - (Go.bits .and .u64 (IntKind.u64.wrap (a1)) 31))) then (some (Go.bits .or .u32 (shl .u32 a0 (Go.bits .and .u64 (IntKind.u64.wrap (a1)) 31)) (shr .u32 a0 (IntKind.u64.wrap (32 - (Go.bits .and .u64 (IntKind.u64.wrap (a1)) 31)))))) else (none)) else (none)
set_option maxHeartbeats 64000000 in
set_option maxRecDepth 100000 in
theorem bits_RotateLeft32.calls (a0 : Int) (a1 : Int) (r : Int) (w : World) (h : bits_RotateLeft32.f a0 a1 = some r) :
 Calls Tryd.prog 95 #[.int .u32 a0, .int .i64 a1] w fun e w' => e = .returned (.int .u32 r) ∧ Drawn0 w w' := by
 have H : (if 0 ≤ (Go.bits .and .u64 (IntKind.u64.wrap (a1)) 31) then (if 0 ≤ (IntKind.u64.wrap (32 - (Go.bits .and .u64 (IntKind.u64.wrap (a1)) 31))) then (some (Go.bits .or .u32 (shl .u32 a0 (Go.bits .and .u64 (IntKind.u64.wrap (a1)) 31)) (shr .u32 a0 (IntKind.u64.wrap (32 - (Go.bits .and .u64 (IntKind.u64.wrap (a1)) 31)))))) else (none)) else (none)) = some r := h
 clear h
 obtain ⟨ji3, hji3⟩ : ∃ j_ : Int, (Go.bits .and .u64 (IntKind.u64.wrap (a1)) 31) = j_ := ⟨_, rfl⟩
 replace H : (if 0 ≤ (ji3) then (if 0 ≤ (IntKind.u64.wrap (32 - (ji3))) then (some (Go.bits .or .u32 (shl .u32 a0 (ji3)) (shr .u32 a0 (IntKind.u64.wrap (32 - (ji3)))))) else (none)) else (none)) = some r := by first | (rw [hji3] at H; exact H) | (simp only [hji3] at H ⊢; exact H)
 by_cases c4 : 0 ≤ (ji3)
 rotate_left
 ·rw [if_neg c4] at H
  exact absurd H (by simp)
 rw [if_pos c4] at H
 have c4b0 := eq_true c4
 have c4b1 : decide (0 ≤ (ji3)) = true := decide_eq_true c4
 clear c4
 obtain ⟨ji5, hji5⟩ : ∃ j_ : Int, (shl .u32 a0 (ji3)) = j_ := ⟨_, rfl⟩
 replace H : (if 0 ≤ (IntKind.u64.wrap (32 - (ji3))) then (some (Go.bits .or .u32 (ji5) (shr .u32 a0 (IntKind.u64.wrap (32 - (ji3)))))) else (none)) = some r := by first | (rw [hji5] at H; exact H) | (simp only [hji5] at H ⊢; exact H)
 have hji5_ : (IntKind.u32.wrap (a0 * 2 ^ min (ji3).toNat 32)) = ji5 := hji5
 have hji5z : (ji3) ≤ 32 → (IntKind.u32.wrap (a0 * 2 ^ (ji3).toNat)) = ji5 := shl_small hji5
 (try (have hji5n : (0 ≤ (ji3)) = True := eq_true (by omega)))
 obtain ⟨ji6, hji6⟩ : ∃ j_ : Int, (IntKind.u64.wrap (32 - (ji3))) = j_ := ⟨_, rfl⟩
 replace H : (if 0 ≤ (ji6) then (some (Go.bits .or .u32 (ji5) (shr .u32 a0 (ji6)))) else (none)) = some r := by first | (rw [hji6] at H; exact H) | (simp only [hji6] at H ⊢; exact H)
 by_cases c7 : 0 ≤ (ji6)
 rotate_left
 ·rw [if_neg c7] at H
  exact absurd H (by simp)
 rw [if_pos c7] at H
 have c7b0 := eq_true c7
 have c7b1 : decide (0 ≤ (ji6)) = true := decide_eq_true c7
 clear c7
 obtain ⟨ji8, hji8⟩ : ∃ j_ : Int, (shr .u32 a0 (ji6)) = j_ := ⟨_, rfl⟩
 replace H : (some (Go.bits .or .u32 (ji5) (ji8))) = some r := by first | (rw [hji8] at H; exact H) | (simp only [hji8] at H ⊢; exact H)
 have hji8_ : (a0 / 2 ^ min (ji6).toNat 32) = ji8 := hji8
 have hji8z : (ji6) ≤ 32 → (a0 / 2 ^ (ji6).toNat) = ji8 := shr_small hji8
 (try (have hji8n : (0 ≤ (ji6)) = True := eq_true (by omega)))
 obtain rfl := Option.some.inj H
 go_enter Tryd.func95, Tryd.ntmps95
 go_wp2
 go_ret
 exact ⟨by first | rfl | (simp; done) | (simp only [← hji3, ← hji5, ← hji6, ← hji8] <;> (first | rfl | simp)) | (simp [*]; done) | exact congrArg Value.bool (nonempty_l _) | (refine congrArg (Value.int _) ?_; first | omega | (unfold wrap64; omega)), by repeat (first | exact Drawn0.refl _ | apply Drawn0.step)⟩

end Go.Proofs.YtmedpnclkbkiiaaDoor.PP
