-- WRITTEN BY a program of this work (wip/ownprint.py), for this seat
import Derived.Test.YtlnodlhlbaigkaaDoorPPx0
import Derived.Test.YtlnodlhlbaigkaaDoorPPx3
namespace Go.Proofs.YtlnodlhlbaigkaaDoor.PP
open Go.RowKit Go.Proofs.YtlnodlhlbaigkaaDoorW.PrintWords Go.Proofs.YtlnodlhlbaigkaaDoorW.PrintLast Go.Proofs.YtlnodlhlbaigkaaDoorW.PrintMore
attribute [local go_sem] max2_int min2_int max_two min_two max_three min_three max_four min_four   -- for this text's walks alone
set_option linter.unusedVariables false
set_option linter.unusedSimpArgs false

-- NOT PRINTED: function 40 (abi_NoEscape)

-- NOT PRINTED: function 35 (strings_Builder_copyCheck)

-- NOT PRINTED: function 41 (bytealg_MakeNoZero)

-- NOT PRINTED: function 36 (strings_Builder_grow)

-- NOT PRINTED: function 26 (strings_Builder_Grow)

-- NOT PRINTED: function 27 (strings_Builder_WriteByte)

/-! ### octets_laid: function 37 -/
mutual
def octets_laid.j0 : Nat → Int → Int → Bool → Option (ByteArray × Bool)
  | 0, _, _, _ => none
  | k + 1, x0, x1, x16 => if x16 = true then (some ((⟨#[]⟩ : ByteArray), false)) else (if 0 ≤ x1 then (if (x1 : Int).toNat ≤ 281474976710656 then ((some (List.replicate (x1 : Int).toNat 0 : List Int)).bind fun y208 => (octets_laid.l0 k x0 x1 y208 (y208.length : Int) 0)) else (none)) else (none))
def octets_laid.l0 : Nat → Int → Int → List Int → Int → Int → Option (ByteArray × Bool)
  | 0, _, _, _, _, _ => none
  | k + 1, x0, x1, x6, x20, x21 => if x21 < x20 then (if 0 ≤ (wrap64 (8 * x21)) then (if 0 ≤ (wrap64 ((wrap64 (x1 - 1)) - x21)) then (if (wrap64 ((wrap64 (x1 - 1)) - x21)) < (x6.length : Int) then (octets_laid.l0 k x0 x1 (x6.set ((wrap64 ((wrap64 (x1 - 1)) - x21)) : Int).toNat ((shr .i64 x0 (wrap64 (8 * x21))) % 256)) x20 (wrap64 (x21 + 1))) else (none)) else (none)) else (none)) else (some (strOfNums x6, true))
end
def octets_laid.f (k : Nat) (a0 : Int) (a1 : Int) : Option (ByteArray × Bool) := if a0 < 0 then (octets_laid.j0 k a0 a1 true) else (if 0 ≤ (wrap64 (8 * a1)) then (octets_laid.j0 k a0 a1 ((shr .i64 a0 (wrap64 (8 * a1))) != 0)) else (none))
theorem octets_laid.mono_l : ∀ k, (∀ y0 y1 y2, LeO (octets_laid.j0 k y0 y1 y2) (octets_laid.j0 (k + 1) y0 y1 y2)) ∧ (∀ y0 y1 y2 y3 y4, LeO (octets_laid.l0 k y0 y1 y2 y3 y4) (octets_laid.l0 (k + 1) y0 y1 y2 y3 y4))
  | 0 => ⟨fun _ _ _ r h => by simp [octets_laid.j0] at h, fun _ _ _ _ _ r h => by simp [octets_laid.l0] at h⟩
  | k + 1 => by
    obtain ⟨ih0, ih1⟩ := octets_laid.mono_l k
    refine ⟨?_, ?_⟩
    · intro y0 y1 y2
      unfold octets_laid.j0
      repeat' first
      | (with_reducible exact ih0 _ _ _)
      | (with_reducible exact ih1 _ _ _ _ _)
      | (with_reducible exact LeO.refl _)
      | (with_reducible exact LeO.none _)
      | (with_reducible refine LeO.ite ?_ ?_)
      | (with_reducible refine LeO.bind ?_ (fun _ => ?_))
      | exact ih0 _ _ _
      | exact ih1 _ _ _ _ _
      | exact LeO.none _
      | refine LeO.ite ?_ ?_
      | refine LeO.bind ?_ (fun _ => ?_)
    · intro y0 y1 y2 y3 y4
      unfold octets_laid.l0
      repeat' first
      | (with_reducible exact ih0 _ _ _)
      | (with_reducible exact ih1 _ _ _ _ _)
      | (with_reducible exact LeO.refl _)
      | (with_reducible exact LeO.none _)
      | (with_reducible refine LeO.ite ?_ ?_)
      | (with_reducible refine LeO.bind ?_ (fun _ => ?_))
      | exact ih0 _ _ _
      | exact ih1 _ _ _ _ _
      | exact LeO.none _
      | refine LeO.ite ?_ ?_
      | refine LeO.bind ?_ (fun _ => ?_)
theorem octets_laid.mono : ∀ a0 a1 k, LeO (octets_laid.f k a0 a1) (octets_laid.f (k + 1) a0 a1) := by
  intro a0 a1 k
  obtain ⟨ih0, ih1⟩ := octets_laid.mono_l k
  unfold octets_laid.f
  repeat' first
      | (with_reducible exact ih0 _ _ _)
      | (with_reducible exact ih1 _ _ _ _ _)
      | (with_reducible exact LeO.refl _)
      | (with_reducible exact LeO.none _)
      | (with_reducible refine LeO.ite ?_ ?_)
      | (with_reducible refine LeO.bind ?_ (fun _ => ?_))
      | exact ih0 _ _ _
      | exact ih1 _ _ _ _ _
      | exact LeO.none _
      | refine LeO.ite ?_ ?_
      | refine LeO.bind ?_ (fun _ => ?_)
set_option maxHeartbeats 64000000 in
set_option maxRecDepth 100000 in
theorem octets_laid.calls (k : Nat) (a0 : Int) (a1 : Int) (r1 : ByteArray) (r2 : Bool) (w : World) (h : octets_laid.f k a0 a1 = some (r1, r2)) :
    Calls Tryd.prog 37 #[.int .i64 a0, .int .i64 a1] w fun e w' => e = .returned (.tuple #[.string r1, .bool r2]) ∧ Below w.heap.size w w' := by
  have HB := Aside0.mk (Below.refl w.heap.size w)
  have H : (if a0 < 0 then (octets_laid.j0 k a0 a1 true) else (if 0 ≤ (wrap64 (8 * a1)) then (octets_laid.j0 k a0 a1 ((shr .i64 a0 (wrap64 (8 * a1))) != 0)) else (none))) = some (r1, r2) := h
  clear h
  have HC3 := Aside0.mk H
  clear H
  go_enter Tryd.func37, Tryd.ntmps37
  go_upto_region 1 with (fail)
  go_cut [16] (fun v16 wc => ∃ (kq : Nat) (x16_2 : Bool), v16 = .bool x16_2 ∧ Aside0 (octets_laid.j0 kq a0 a1 x16_2 = some (r1, r2)) ∧ Aside0 (kq ≤ k) ∧ Aside0 (Below w.heap.size w wc))
  case first =>
    have H := HC3.out
    clear HC3
    by_cases c4 : a0 < 0
    · rw [if_pos c4] at H
      have c4b0 : decide (a0 < 0) = true := decide_eq_true c4
      clear c4
      (first | rw [c4b0] | (simp only [i64_w, i32_w]; rw [c4b0]) | skip)
      have H' := Aside0.mk H
      clear H
      go_wp2
      go_meet
      case rel => exact ⟨_, (true), (by first | rfl | (simp; done) | (simp [*]; done) | exact congrArg Value.bool (nonempty_l _) | (refine congrArg (Value.int _) ?_; first | omega | (unfold Go.RowKit.wrap64; omega))), H', ⟨by first | omega | exact Nat.le_refl _⟩, ⟨by repeat (first | (with_reducible first | exact HB.out | apply below_alloc | apply pw_below_drewN | apply below_drew1) | exact HB.out)⟩⟩
    · rw [if_neg c4] at H
      have c4b0 : decide (a0 < 0) = false := decide_eq_false c4
      clear c4
      (first | rw [c4b0] | (simp only [i64_w, i32_w]; rw [c4b0]) | skip)
      obtain ⟨ji5, hji5⟩ : ∃ j_ : Int, (wrap64 (8 * a1)) = j_ := ⟨_, rfl⟩
      replace H : (if 0 ≤ (ji5) then (octets_laid.j0 k a0 a1 ((shr .i64 a0 (ji5)) != 0)) else (none)) = some (r1, r2) := by first | (rw [hji5] at H; exact H) | (simp only [hji5] at H ⊢; exact H)
      have hji5w : (IntKind.i64.wrap (8 * a1)) = ji5 := (i64_w _).trans hji5
      by_cases c6 : 0 ≤ (ji5)
      · rw [if_pos c6] at H
        have c6b0 := eq_true c6
        have c6b1 : decide (0 ≤ (ji5)) = true := decide_eq_true c6
        clear c6
        obtain ⟨ji7, hji7⟩ : ∃ j_ : Int, (shr .i64 a0 (ji5)) = j_ := ⟨_, rfl⟩
        replace H : (octets_laid.j0 k a0 a1 ((ji7) != 0)) = some (r1, r2) := by first | (rw [hji7] at H; exact H) | (simp only [hji7] at H ⊢; exact H)
        have hji7_ : (a0 / 2 ^ min (ji5).toNat 64) = ji7 := hji7
        have hji7z : (ji5) ≤ 64 → (a0 / 2 ^ (ji5).toNat) = ji7 := shr_small hji7
        (try (have hji7n : (0 ≤ (ji5)) = True := eq_true (by omega)))
        have H' := Aside0.mk H
        clear H
        go_wp2
        go_meet
        case rel => exact ⟨_, (((ji7) != 0)), (by first | rfl | (simp; done) | (simp only [← hji7] <;> (first | rfl | simp)) | (simp [*]; done) | exact congrArg Value.bool (nonempty_l _) | (refine congrArg (Value.int _) ?_; first | omega | (unfold Go.RowKit.wrap64; omega))), H', ⟨by first | omega | exact Nat.le_refl _⟩, ⟨by repeat (first | (with_reducible first | exact HB.out | apply below_alloc | apply pw_below_drewN | apply below_drew1) | exact HB.out)⟩⟩
      · rw [if_neg c6] at H
        exact absurd H (by simp)
  case rest =>
    clear HC3
    (try clear p2); (try clear c3); (try clear c4); (try clear c4b0); (try clear c6); (try clear c6b0); (try clear c6b1); (try clear p6)
    obtain ⟨kq, x16_2, rfl, HA, HJ2, HB⟩ := hcut
    cases kq with
    | zero => exact absurd HA.out (by simp [octets_laid.j0])
    | succ kj2 =>
      have H := HA.out
      clear HA
      simp only [octets_laid.j0] at H
      by_cases c8 : x16_2 = true
      · subst c8
        have H1 : (some ((⟨#[]⟩ : ByteArray), false)) = some (r1, r2) := by rw [if_pos rfl] at H; exact H
        clear H
        have H := H1
        clear H1
        simp only [Option.some.injEq, Prod.mk.injEq] at H
        obtain ⟨rfl, rfl⟩ := H
        go_wp2
        go_ret2
        exact ⟨by first | rfl | (simp [errW_none, errW_some] <;> rfl) | (simp [*, errW_none, errW_some] <;> rfl), by repeat (first | (with_reducible first | exact HB.out | apply below_alloc | apply pw_below_drewN | apply below_drew1) | exact HB.out)⟩
      · replace c8 := Bool.eq_false_iff.mpr c8
        subst c8
        have H1 : (if 0 ≤ a1 then (if (a1 : Int).toNat ≤ 281474976710656 then ((some (List.replicate (a1 : Int).toNat 0 : List Int)).bind fun y208 => (octets_laid.l0 kj2 a0 a1 y208 (y208.length : Int) 0)) else (none)) else (none)) = some (r1, r2) := by rw [if_neg (show ¬ (false = true) by decide)] at H; exact H
        clear H
        have H := H1
        clear H1
        by_cases c9 : 0 ≤ a1
        · rw [if_pos c9] at H
          have c9b0 := eq_true c9
          have c9b1 : decide (0 ≤ a1) = true := decide_eq_true c9
          clear c9
          by_cases c10 : (a1 : Int).toNat ≤ 281474976710656
          · rw [if_pos c10] at H
            have c10b0 := eq_true c10
            have c10b1 : decide ((a1 : Int).toNat ≤ 281474976710656) = true := decide_eq_true c10
            clear c10
            obtain ⟨y208, hy208⟩ : ∃ y_ : List Int, y_ = (List.replicate (a1 : Int).toNat 0) := ⟨_, rfl⟩
            replace H : (octets_laid.l0 kj2 a0 a1 y208 (y208.length : Int) 0) = some (r1, r2) := by first | (rw [hy208]; with_reducible exact H) | (have H2_ := (Option.bind_some _ _).symm.trans H; rw [hy208]; with_reducible exact H2_) | (have H2_ := (Option.bind_some _ _).symm.trans H; with_reducible exact H2_) | with_reducible exact H | (rw [hy208]; exact H) | exact H
            have Ny208 := Aside0.mk hy208
            clear hy208
            have H' := Aside0.mk H
            clear H
            go_wp2_with (first | ((with_reducible refine gate_dst (N := 18) rfl ?_); refine Kd.R_make (Kd.int .u8) _ 5 rfl (N := 18) rfl 29 _ _ rfl a1 rfl rfl Tryd.underlying29 (.int .u8 0) 1 info5 rfl (by decide) (by omega) 0 (ok := fun _ => True) (okp := fun _ => True) rfl (fun _ hk => hk) trivial (of_decide_eq_true (by first | (with_reducible assumption) | assumption)) (Nat.le_trans (Nat.mul_le_mul_right _ (of_decide_eq_true (by first | (with_reducible assumption) | assumption) : a1.toNat ≤ 281474976710656)) (by omega)) (Below.refl _ _) (Nat.le_refl _) ?_; intro v209 w11 ho12 hb hg_ hnew_; clear hg_ hnew_; (first | rw [← Ny208.out] at ho12 | (simp only [Int.reduceToNat] at ho12; rw [← Ny208.out] at ho12)); have n0_ := Aside0.mk (Kd.R_lower ho12 (below_size (by repeat (first | (with_reducible first | exact HB.out | apply below_alloc | apply pw_below_drewN | apply below_drew1) | exact HB.out)))); have n1_ := Aside0.mk (below_step (by repeat (first | (with_reducible first | exact HB.out | apply below_alloc | apply pw_below_drewN | apply below_drew1) | exact HB.out)) hb); clear HB; have HO210 := n0_; have HB := n1_; clear n0_ n1_; clear hb ho12; obtain ⟨Ao13, co13, eo13⟩ := Kd.R_slice HO210.out; subst eo13))
            go_loopg [21] kj2 (fun kq v21 w' => ∃ (x6_2 : List Int) (x21_2 : Int), v21 = .int .i64 x21_2 ∧ Aside0 (octets_laid.l0 kq a0 a1 x6_2 (y208.length : Int) x21_2 = some (r1, r2)) ∧ Aside0 (kq ≤ kj2) ∧ Aside0 (Kd.R (Kd.int .u8) 5 w' w.heap.size (fun _ => True) (.slice Ao13 y208.length co13) x6_2) ∧ Aside0 (Below w.heap.size w w'))
            case atStart => exact ⟨(y208), (0), (by first | rfl | (simp; done) | (simp [*]; done) | exact congrArg Value.bool (nonempty_l _) | (refine congrArg (Value.int _) ?_; first | omega | (unfold Go.RowKit.wrap64; omega))), H', ⟨Nat.le_refl _⟩, ⟨by (with_reducible repeat (first | apply Kd.R_alloc | apply Kd.R_drewN | apply Kd.R_drew)); exact HO210.out⟩, ⟨by repeat (first | (with_reducible first | exact HB.out | apply below_alloc | apply pw_below_drewN | apply below_drew1) | exact HB.out)⟩⟩
            case round =>
              clear H'
              (try clear c1); (try clear p2); (try clear c3); (try clear c4); (try clear c4b0); (try clear c6); (try clear c6b0); (try clear c6b1); (try clear p6); (try clear c8); (try clear c9); (try clear c9b0); (try clear c9b1); (try clear c10); (try clear c10b0); (try clear c10b1); (try clear p2); (try clear p6)
              obtain ⟨x6_2, x21_2, rfl, HA, HK2, HO_6, HB⟩ := hrel
              have hl6_2 := (Kd.R_reads' HO_6.out).1
              rw [hl6_2] at HO_6
              (try simp only [hl6_2])
              cases gk with
              | zero => exact absurd HA.out (by simp [octets_laid.l0])
              | succ k2 =>
                have H := HA.out
                clear HA
                simp only [octets_laid.l0] at H
                by_cases c14 : x21_2 < (y208.length : Int)
                · rw [if_pos c14] at H
                  have c14b0 : decide (x21_2 < (y208.length : Int)) = true := decide_eq_true c14
                  (try (have c14b7 := c14b0; simp only [hl6_2] at c14b7))
                  clear c14
                  obtain ⟨ji15, hji15⟩ : ∃ j_ : Int, (wrap64 (8 * x21_2)) = j_ := ⟨_, rfl⟩
                  replace H : (if 0 ≤ (ji15) then (if 0 ≤ (wrap64 ((wrap64 (a1 - 1)) - x21_2)) then (if (wrap64 ((wrap64 (a1 - 1)) - x21_2)) < (x6_2.length : Int) then (octets_laid.l0 k2 a0 a1 (x6_2.set ((wrap64 ((wrap64 (a1 - 1)) - x21_2)) : Int).toNat ((shr .i64 a0 (ji15)) % 256)) (y208.length : Int) (wrap64 (x21_2 + 1))) else (none)) else (none)) else (none)) = some (r1, r2) := by first | (rw [hji15] at H; exact H) | (simp only [hji15] at H ⊢; exact H)
                  have hji15w : (IntKind.i64.wrap (8 * x21_2)) = ji15 := (i64_w _).trans hji15
                  by_cases c16 : 0 ≤ (ji15)
                  · rw [if_pos c16] at H
                    have c16b0 := eq_true c16
                    have c16b1 : decide (0 ≤ (ji15)) = true := decide_eq_true c16
                    clear c16
                    obtain ⟨ji17, hji17⟩ : ∃ j_ : Int, (shr .i64 a0 (ji15)) = j_ := ⟨_, rfl⟩
                    replace H : (if 0 ≤ (wrap64 ((wrap64 (a1 - 1)) - x21_2)) then (if (wrap64 ((wrap64 (a1 - 1)) - x21_2)) < (x6_2.length : Int) then (octets_laid.l0 k2 a0 a1 (x6_2.set ((wrap64 ((wrap64 (a1 - 1)) - x21_2)) : Int).toNat ((ji17) % 256)) (y208.length : Int) (wrap64 (x21_2 + 1))) else (none)) else (none)) = some (r1, r2) := by first | (rw [hji17] at H; exact H) | (simp only [hji17] at H ⊢; exact H)
                    have hji17_ : (a0 / 2 ^ min (ji15).toNat 64) = ji17 := hji17
                    have hji17z : (ji15) ≤ 64 → (a0 / 2 ^ (ji15).toNat) = ji17 := shr_small hji17
                    (try (have hji17n : (0 ≤ (ji15)) = True := eq_true (by omega)))
                    obtain ⟨ji18, hji18⟩ : ∃ j_ : Int, (wrap64 ((wrap64 (a1 - 1)) - x21_2)) = j_ := ⟨_, rfl⟩
                    replace H : (if 0 ≤ (ji18) then (if (ji18) < (x6_2.length : Int) then (octets_laid.l0 k2 a0 a1 (x6_2.set ((ji18) : Int).toNat ((ji17) % 256)) (y208.length : Int) (wrap64 (x21_2 + 1))) else (none)) else (none)) = some (r1, r2) := by first | (rw [hji18] at H; exact H) | (simp only [hji18] at H ⊢; exact H)
                    have hji18w : (IntKind.i64.wrap ((wrap64 (a1 - 1)) - x21_2)) = ji18 := (i64_w _).trans hji18
                    by_cases c19 : 0 ≤ (ji18)
                    · rw [if_pos c19] at H
                      have c19b0 : decide (0 ≤ (ji18)) = true := decide_eq_true c19
                      (try (have c19b7 := c19b0; simp only [hl6_2] at c19b7))
                      clear c19
                      by_cases c20 : (ji18) < (x6_2.length : Int)
                      · rw [if_pos c20] at H
                        have c20b0 : decide ((ji18) < (x6_2.length : Int)) = true := decide_eq_true c20
                        (try (have c20b7 := c20b0; simp only [hl6_2] at c20b7))
                        clear c20
                        obtain ⟨y211, hy211⟩ : ∃ y_ : List Int, y_ = (x6_2.set ((ji18) : Int).toNat ((ji17) % 256)) := ⟨_, rfl⟩
                        replace H : (octets_laid.l0 k2 a0 a1 y211 (y208.length : Int) (wrap64 (x21_2 + 1))) = some (r1, r2) := by first | (rw [hy211]; with_reducible exact H) | (have H2_ := (Option.bind_some _ _).symm.trans H; rw [hy211]; with_reducible exact H2_) | (have H2_ := (Option.bind_some _ _).symm.trans H; with_reducible exact H2_) | with_reducible exact H | (rw [hy211]; exact H) | exact H
                        have Ny211 := Aside0.mk hy211
                        clear hy211
                        have H' := Aside0.mk H
                        clear H
                        have p21 : 0 ≤ ((ji18) : Int) := of_decide_eq_true (by first | (with_reducible assumption) | assumption)
                        have q21 : ((ji18) : Int) < ((x6_2.length : Int) : Int) := of_decide_eq_true (by first | (with_reducible assumption) | assumption)
                        obtain ⟨go21, co21, eo21, gb21, gl21, cl21, HG21⟩ := Kd.R_form HO_6.out (by omega)
                        (first | cases eo21 | (injection eo21 with ea_ en_ ec_; (first | subst ea_ | (injection ea_ with ea_; subst ea_)); subst ec_; clear en_))
                        have GB21 := Aside0.mk gb21
                        have GG21 := Aside0.mk HG21
                        clear gb21 gl21 HG21
                        obtain ⟨hx21_0, hf21_0⟩ := Kd.R_celln 0 HO_6.out ((ji18) : Int) p21 q21
                        replace p21 := eq_true p21
                        replace q21 := eq_true q21
                        have HP22 := Kd.R_putg HO_6.out ((ji18) : Int) ((ji17) % 256)
                        go_wp2_with (first | ((with_reducible refine gate_store (t := 5) (p := 34) rfl ?_); refine store_event (t := 5) (p := 34) (v := ?vo_w23) (w1 := (wr.setCell ⟨go21, ((ji18) : Int).toNat, none⟩ (.int .u8 ((ji17) % 256)))) ?hg ?ho ?hn ?hr ?_; (case ho => rfl); (case hg => rfl); (case hn => rfl); (case hr => first | (go_simp; done) | (go_simp; rfl)); intro w23 hw; have hg : wr.grownBy w23 (some go21) := (by rw [hw]; exact HP22.2); have hp_ : Kd.R (Kd.int .u8) 5 w23 w.heap.size (fun _ => True) (.slice (some ⟨go21, 0, none⟩) x6_2.length co13) y211 := (by rw [hw, Ny211.out]; exact HP22.1); clear HP22; have n0_ := Aside0.mk (hp_); have n1_ := Aside0.mk ((by rw [hw]; exact below_set (HB.out) GB21.out : Below w.heap.size w w23)); clear HO_6; clear HB; have HO_6 := n0_; have HB := n1_; clear n0_ n1_; clear hg hw hp_))
                        (try simp only [← hl6_2])
                        go_roundg k2
                        case measure => have := HJ2.out; have := HK2.out; omega
                        case rel => exact ⟨(y211), (wrap64 (x21_2 + 1)), (by first | rfl | (simp; done) | (simp [*]; done) | exact congrArg Value.bool (nonempty_l _) | (refine congrArg (Value.int _) ?_; first | omega | (unfold Go.RowKit.wrap64; omega))), H', ⟨by have := HJ2.out; have := HK2.out; omega⟩, ⟨by (try simp only [hl6_2]); (with_reducible repeat (first | apply Kd.R_alloc | apply Kd.R_drewN | apply Kd.R_drew)); exact HO_6.out⟩, ⟨by repeat (first | (with_reducible first | exact HB.out | apply below_alloc | apply pw_below_drewN | apply below_drew1) | exact HB.out)⟩⟩
                      · rw [if_neg c20] at H
                        exact absurd H (by simp)
                    · rw [if_neg c19] at H
                      exact absurd H (by simp)
                  · rw [if_neg c16] at H
                    exact absurd H (by simp)
                · rw [if_neg c14] at H
                  have c14b0 : decide (x21_2 < (y208.length : Int)) = false := decide_eq_false c14
                  (try (have c14b7 := c14b0; simp only [hl6_2] at c14b7))
                  clear c14
                  simp only [Option.some.injEq, Prod.mk.injEq] at H
                  obtain ⟨rfl, rfl⟩ := H
                  have hcv24 := own_string (P := Tryd.prog) Tryd.underlying29 Tryd.underlying5 Tryd.underlying9 (Kd.own_of_R HO_6.out)
                  go_wp2
                  go_ret2
                  exact ⟨by first | rfl | (simp [errW_none, errW_some] <;> rfl) | (simp [*, errW_none, errW_some] <;> rfl), by repeat (first | (with_reducible first | exact HB.out | apply below_alloc | apply pw_below_drewN | apply below_drew1) | exact HB.out)⟩
          · rw [if_neg c10] at H
            exact absurd H (by simp)
        · rw [if_neg c9] at H
          exact absurd H (by simp)

/-! ### octets_Long: function 28 -/
def octets_Long.f (k : Nat) (a0 : Int) : Option (ByteArray × Bool) := (octets_laid.f k a0 4).bind fun bt212 => (some (bt212.1, bt212.2))
theorem octets_Long.mono : ∀ a0 k, LeO (octets_Long.f k a0) (octets_Long.f (k + 1) a0) := by
  intro a0 k
  unfold octets_Long.f
  repeat' first
      | (with_reducible exact octets_laid.mono _ _ _)
      | (with_reducible exact LeO.refl _)
      | (with_reducible exact LeO.none _)
      | (with_reducible refine LeO.ite ?_ ?_)
      | (with_reducible refine LeO.bind ?_ (fun _ => ?_))
      | exact octets_laid.mono _ _ _
      | exact LeO.none _
      | refine LeO.ite ?_ ?_
      | refine LeO.bind ?_ (fun _ => ?_)
set_option maxHeartbeats 64000000 in
set_option maxRecDepth 100000 in
theorem octets_Long.calls (k : Nat) (a0 : Int) (r1 : ByteArray) (r2 : Bool) (w : World) (h : octets_Long.f k a0 = some (r1, r2)) :
    Calls Tryd.prog 28 #[.int .i64 a0] w fun e w' => e = .returned (.tuple #[.string r1, .bool r2]) ∧ Below w.heap.size w w' := by
  have HB := Aside0.mk (Below.refl w.heap.size w)
  have H : ((octets_laid.f k a0 4).bind fun bt212 => (some (bt212.1, bt212.2))) = some (r1, r2) := h
  clear h
  replace H := Option.bind_eq_some_iff.mp H
  obtain ⟨⟨t212, t213⟩, A20, H⟩ := H
  replace H : (some (t212, t213)) = some (r1, r2) := H
  have A2 := Aside0.mk A20
  clear A20
  simp only [Option.some.injEq, Prod.mk.injEq] at H
  obtain ⟨rfl, rfl⟩ := H
  go_enter Tryd.func28, Tryd.ntmps28
  go_wp2_with (first | ((with_reducible refine gate_callee (f := 37) rfl ?_); refine goesL_ (some 5) rfl rfl Tryd.func37 (by kernel_rfl) rfl #[.int .i64 a0, .int .i64 4] rfl (by (try simp only [List.map_toArray, List.map_cons, List.map_nil]); first | done | rfl | (simp only [List.length_drop, List.length_take]; rfl)) ?_; (with_reducible refine (octets_laid.calls k a0 4 t212 t213 _ A2.out).mono ?_); rintro e w3 ⟨rfl, hb⟩; refine ⟨_, rfl, ?_⟩; have n0_ := Aside0.mk (below_step (by repeat (first | (with_reducible first | exact HB.out | apply below_alloc | apply pw_below_drewN | apply below_drew1) | exact HB.out)) hb); clear HB; have HB := n0_; clear n0_; (try clear hb); (try clear hb2); (try clear hk); (try clear hi)))
  go_ret2
  exact ⟨by first | rfl | (simp [errW_none, errW_some] <;> rfl) | (simp [*, errW_none, errW_some] <;> rfl), by repeat (first | (with_reducible first | exact HB.out | apply below_alloc | apply pw_below_drewN | apply below_drew1) | exact HB.out)⟩

-- NOT PRINTED: function 29 (strings_Builder_WriteString)

-- NOT PRINTED: function 30 (strings_Builder_String)

/-! ### sha_Input: function 13 (walked by hand) -/
/-- Texts with their lengths in four bytes, one behind the other. -/
def sha_Input.parts (k : Nat) : List ByteArray → Option (List UInt8)
  | [] => some []
  | s :: l => (octets_Long.f k (s.size : Int)).bind fun n => (sha_Input.parts k l).bind fun r => some ((n.1.toList ++ s.toList) ++ r)
def sha_Input.u8 (x : Int) : UInt8 := UInt8.ofNat (x % 256).toNat
def sha_Input.f (k : Nat) (a0 : Int) (l1 : List ByteArray) : Option ByteArray :=
  (sha_Input.parts k l1).bind fun r => if ([sha_Input.u8 a0] ++ r).length ≤ 140737488355328 then some ⟨([sha_Input.u8 a0] ++ r).toArray⟩ else none
theorem sha_Input.parts_mono : ∀ k l, LeO (sha_Input.parts k l) (sha_Input.parts (k + 1) l)
  | _, [] => LeO.refl _
  | k, s :: l => by
    unfold sha_Input.parts
    exact LeO.bind (octets_Long.mono _ _) fun _ => LeO.bind (sha_Input.parts_mono k l) fun _ => LeO.refl _
theorem sha_Input.mono : ∀ a0 l1 k, LeO (sha_Input.f k a0 l1) (sha_Input.f (k + 1) a0 l1) := by
  intro a0 l1 k
  unfold sha_Input.f
  exact LeO.bind (sha_Input.parts_mono k l1) fun _ => LeO.refl _
theorem sha_Input.wrap_step {n : Nat} {x : Int} (h : (n : Nat) ≤ 9223372036854775807) (h0 : 0 ≤ x) (h1 : x < (n : Int)) : IntKind.i64.wrap (x + 1) = x + 1 := by
  rw [IntKind.wrap_i64]; omega
theorem sha_Input.size_toList (s : ByteArray) : s.toList.length = s.size := by rw [ByteArray.toList_eq, data_length]
theorem sha_Input.drop_rd (l : List ByteArray) (x : Int) (h0 : 0 ≤ x) (h1 : x < (l.length : Int)) : l.drop x.toNat = rdOf ByteArray.empty l x :: l.drop (x + 1).toNat := by
  have hl : x.toNat < l.length := by omega
  have e : (x + 1).toNat = x.toNat + 1 := by omega
  rw [e, List.drop_eq_getElem_cons hl]
  congr 1
  simp [rdOf, List.getD, hl]
set_option maxHeartbeats 8000000 in
set_option maxRecDepth 100000 in
theorem sha_Input.calls (k : Nat) (a0 : Int) (A1 : Option Addr) (c1 : Nat) (l1 : List ByteArray) (r : ByteArray) (w : World) (hr1 : Kd.C Kd.string w A1 l1.length l1) (hc1 : l1.length ≤ c1) (h : sha_Input.f k a0 l1 = some r) :
    Calls Tryd.prog 13 #[.int .i64 a0, .slice A1 l1.length c1] w fun e w' => e = .returned (.string r) ∧ Below w.heap.size w w' := by
  have HR1 := Aside0.mk hr1
  have HC1 := Aside0.mk hc1
  clear hr1 hc1
  unfold sha_Input.f at h
  obtain ⟨rest, hR, h⟩ := Option.bind_eq_some_iff.mp h
  obtain ⟨bs, hbs⟩ : ∃ bs, [sha_Input.u8 a0] ++ rest = bs := ⟨_, rfl⟩
  rw [hbs] at h
  have hbl : bs.length ≤ 140737488355328 := by
    by_cases hh : bs.length ≤ 140737488355328
    · exact hh
    · rw [if_neg hh] at h; cases h
  rw [if_pos hbl] at h
  obtain rfl := Option.some.inj h
  have HL := Aside0.mk hbl
  have HT0 := Aside0.mk hR
  have HBS0 := Aside0.mk hbs
  have HBL := Aside0.mk (show 1 + rest.length = bs.length by rw [← hbs]; simp; omega)
  have hn1 := HR1.out.2.1
  have hrest : rest.length < bs.length := by have := HBL.out; omega
  clear h hbl hR hbs hrest
  go_enter Tryd.func13, Tryd.ntmps13
  go_wp2_with (first | ((with_reducible refine gate_dst (N := 5) rfl ?_); refine Kd.event_run (w1 := w.alloc (.cells #[.pointer none, .slice none 0 0] 53)) (v := .pointer (some ⟨w.heap.size, 0, none⟩)) ?hg ?hr ?_; (case hg => rfl); (case hr => first | (go_simp; done) | (go_simp; rfl))) | (go_at_call 26; (refine (Bld.St.grow w 64 (by decide)).mono ?_); rintro e w3 ⟨rfl, hs⟩; obtain ⟨b, hb_⟩ : ∃ b, b = w.heap.size := ⟨_, rfl⟩; rw [← hb_] at hs; rw [← hb_]; have HS := Aside0.mk hs; have LB := Aside0.mk (show w.heap.size ≤ b by rw [hb_]; exact Nat.le_refl _); clear hs hb_) | (go_at_call 27; (refine (HS.out.byte _ ?s0 ?s1 ?s2).mono ?_); (case s0 => first | omega | (simp only [IntKind.wrap_u8]; omega)); (case s1 => first | omega | (simp only [IntKind.wrap_u8]; omega)); (case s2 => first | (simp; done) | (have := HL.out; have := HBL.out; simp at *; omega)); rintro e w4 ⟨rfl, hs⟩; have n0_ := Aside0.mk hs; clear HS hs; have HS := n0_; clear n0_))
  go_loopg [16] l1.length (fun kq v16 w' => ∃ x : Int, v16 = .int .i64 x ∧ Aside0 (0 ≤ x ∧ x + (kq : Int) = (l1.length : Int)) ∧ Aside0 (∃ acc rest, sha_Input.parts k (l1.drop x.toNat) = some rest ∧ acc ++ rest = bs ∧ Bld.St w b acc w'))
  case atStart => exact ⟨0, (by first | rfl | simp), ⟨by omega⟩, ⟨_, rest, HT0.out, HBS0.out, HS.out⟩⟩
  case round =>
    obtain ⟨x, rfl, HP, HE⟩ := hrel
    clear HS HBL HT0 HBS0
    obtain ⟨acc, rest1, hT, hE, hS⟩ := HE.out
    have HS := Aside0.mk hS
    have hp := HP.out
    cases gk with
    | zero =>
      have hc : decide (x < (l1.length : Int)) = false := decide_eq_false (by omega)
      have hd : l1.drop x.toNat = [] := List.drop_of_length_le (by omega)
      rw [hd] at hT
      have hr0 : rest1 = [] := (Option.some.inj hT).symm
      have HBS := Aside0.mk (show acc = bs by rw [← hE, hr0, List.append_nil])
      clear hT hE hS hd hr0 HE hp HP
      go_wp2_with (first | (go_at_call 30; have n0_ := Aside0.mk (HS.out.cast (show _ = bs from HBS.out)); clear HS; have HS := n0_; clear n0_; (refine HS.out.out.mono ?_); rintro e w7 ⟨rfl, hs⟩; have n0_ := Aside0.mk hs; clear HS hs; have HS := n0_; clear n0_))
      go_ret
      exact ⟨rfl, HS.out.below (Below.refl _ _) LB.out⟩
    | succ k1 =>
      have hc : decide (x < (l1.length : Int)) = true := decide_eq_true (by omega)
      have p0 : (0 ≤ x) = True := eq_true (by omega)
      have q0 : (x < (l1.length : Int)) = True := eq_true (by omega)
      have hw1 := sha_Input.wrap_step (n := l1.length) (x := x) hn1 (by omega) (by omega)
      rw [sha_Input.drop_rd l1 x (by omega) (by omega)] at hT
      unfold sha_Input.parts at hT
      obtain ⟨⟨n, ok⟩, hT1, hT⟩ := Option.bind_eq_some_iff.mp hT
      obtain ⟨rest2, hT2, hT⟩ := Option.bind_eq_some_iff.mp hT
      have hr1 : (n.toList ++ (rdOf ByteArray.empty l1 x).toList) ++ rest2 = rest1 := Option.some.inj hT
      have HT := Aside0.mk hT1
      have HT2 := Aside0.mk hT2
      have HE2 := Aside0.mk (show ((acc ++ n.toList) ++ (rdOf ByteArray.empty l1 x).toList) ++ rest2 = bs by rw [← hE, ← hr1]; simp only [List.append_assoc])
      have HBL := Aside0.mk (show acc.length + n.size + (rdOf ByteArray.empty l1 x).size + rest2.length = bs.length by rw [← HE2.out]; simp [sha_Input.size_toList]; omega)
      obtain ⟨ad, e4_, hx⟩ := Kd.at_string HR1.out x (by omega) (by omega)
      cases e4_
      have hx0 := ((HS.out.below (Below.refl _ _) LB.out).cell (World.block_lt_of_cell? w _ hx)).trans hx
      clear hT hT1 hT2 hE hS hr1 HE hx hp
      go_wp2_with (first | (go_at_call 28; (with_reducible refine (octets_Long.calls k _ n ok _ HT.out).mono ?_); rintro e w5 ⟨rfl, hb⟩; have n0_ := Aside0.mk (HS.out.later hb); clear HS hb; have HS := n0_; clear n0_) | (go_at_call 29; (refine (HS.out.str _ ?s2).mono ?_); (case s2 => have := HL.out; have := HBL.out; (try simp only [List.length_append, sha_Input.size_toList]); omega); rintro e w6 ⟨rfl, hs⟩; have n0_ := Aside0.mk hs; clear HS hs; have HS := n0_; clear n0_))
      go_roundg k1
      case measure => omega
      case rel => exact ⟨x + 1, (by first | rfl | (simp; done) | (simp [*]; done) | (refine congrArg (Value.int _) ?_; rw [hw1])), ⟨by have := HP.out; omega⟩, ⟨_, rest2, HT2.out, HE2.out, HS.out⟩⟩

/-! ### palaverlaw02_awake: function 11 -/
def palaverlaw02_awake.f (k : Nat)  : Option (Bool) := (sha_Sum.f k (⟨#[97, 98, 99]⟩ : ByteArray)).bind fun t214 => (if t214.toList = ([186, 120, 22, 191, 143, 1, 207, 234, 65, 65, 64, 222, 93, 174, 34, 35, 176, 3, 97, 163, 150, 23, 122, 156, 180, 16, 255, 97, 242, 0, 21, 173] : List UInt8) then ((sha_Input.f k 7 (([(⟨#[97, 98]⟩ : ByteArray), (⟨#[]⟩ : ByteArray)] : List ByteArray))).bind fun t218 => (some (t218.toList == ([7, 0, 0, 0, 2, 97, 98, 0, 0, 0, 0] : List UInt8)))) else (some false))
theorem palaverlaw02_awake.mono : ∀ k, LeO (palaverlaw02_awake.f k ) (palaverlaw02_awake.f (k + 1) ) := by
  intro  k
  unfold palaverlaw02_awake.f
  repeat' first
      | (with_reducible exact sha_Input.mono _ _ _)
      | (with_reducible exact sha_Sum.mono _ _)
      | (with_reducible exact LeO.refl _)
      | (with_reducible exact LeO.none _)
      | (with_reducible refine LeO.ite ?_ ?_)
      | (with_reducible refine LeO.bind ?_ (fun _ => ?_))
      | exact sha_Input.mono _ _ _
      | exact sha_Sum.mono _ _
      | exact LeO.none _
      | refine LeO.ite ?_ ?_
      | refine LeO.bind ?_ (fun _ => ?_)
set_option maxHeartbeats 64000000 in
set_option maxRecDepth 100000 in
theorem palaverlaw02_awake.calls (k : Nat)  (r : Bool) (w : World) (hrG : Kd.C (Kd.int .u32) w (some ⟨0, 0, none⟩) keysL.length keysL) (h : palaverlaw02_awake.f k  = some r) :
    Calls Tryd.prog 11 #[] w fun e w' => e = .returned (.bool r) ∧ Below w.heap.size w w' := by
  have HRG := Aside0.mk hrG
  clear hrG
  have HB := Aside0.mk (Below.refl w.heap.size w)
  have H : ((sha_Sum.f k (⟨#[97, 98, 99]⟩ : ByteArray)).bind fun t214 => (if t214.toList = ([186, 120, 22, 191, 143, 1, 207, 234, 65, 65, 64, 222, 93, 174, 34, 35, 176, 3, 97, 163, 150, 23, 122, 156, 180, 16, 255, 97, 242, 0, 21, 173] : List UInt8) then ((sha_Input.f k 7 (([(⟨#[97, 98]⟩ : ByteArray), (⟨#[]⟩ : ByteArray)] : List ByteArray))).bind fun t218 => (some (t218.toList == ([7, 0, 0, 0, 2, 97, 98, 0, 0, 0, 0] : List UInt8)))) else (some false))) = some r := h
  clear h
  replace H := Option.bind_eq_some_iff.mp H
  obtain ⟨t214, A10, H⟩ := H
  replace H : (if t214.toList = ([186, 120, 22, 191, 143, 1, 207, 234, 65, 65, 64, 222, 93, 174, 34, 35, 176, 3, 97, 163, 150, 23, 122, 156, 180, 16, 255, 97, 242, 0, 21, 173] : List UInt8) then ((sha_Input.f k 7 (([(⟨#[97, 98]⟩ : ByteArray), (⟨#[]⟩ : ByteArray)] : List ByteArray))).bind fun t218 => (some (t218.toList == ([7, 0, 0, 0, 2, 97, 98, 0, 0, 0, 0] : List UInt8)))) else (some false)) = some r := H
  have A1 := Aside0.mk A10
  clear A10
  by_cases c2 : t214.toList = ([186, 120, 22, 191, 143, 1, 207, 234, 65, 65, 64, 222, 93, 174, 34, 35, 176, 3, 97, 163, 150, 23, 122, 156, 180, 16, 255, 97, 242, 0, 21, 173] : List UInt8)
  · rw [if_pos c2] at H
    have c2b0 : (t214.toList == ([186, 120, 22, 191, 143, 1, 207, 234, 65, 65, 64, 222, 93, 174, 34, 35, 176, 3, 97, 163, 150, 23, 122, 156, 180, 16, 255, 97, 242, 0, 21, 173] : List UInt8)) = true := beq_iff_eq.mpr c2
    have c2b1 : (t214.toList != ([186, 120, 22, 191, 143, 1, 207, 234, 65, 65, 64, 222, 93, 174, 34, 35, 176, 3, 97, 163, 150, 23, 122, 156, 180, 16, 255, 97, 242, 0, 21, 173] : List UInt8)) = false := bne_eq_false_iff_eq.mpr c2
    clear c2
    obtain ⟨y215, hy215⟩ : ∃ y_ : List ByteArray, y_ = (([(⟨#[97, 98]⟩ : ByteArray), (⟨#[]⟩ : ByteArray)] : List ByteArray)) := ⟨_, rfl⟩
    replace H : ((sha_Input.f k 7 y215).bind fun t218 => (some (t218.toList == ([7, 0, 0, 0, 2, 97, 98, 0, 0, 0, 0] : List UInt8)))) = some r := by first | (rw [hy215]; with_reducible exact H) | (have H2_ := (Option.bind_some _ _).symm.trans H; rw [hy215]; with_reducible exact H2_) | (have H2_ := (Option.bind_some _ _).symm.trans H; with_reducible exact H2_) | with_reducible exact H | (rw [hy215]; exact H) | exact H
    have Ny215 := Aside0.mk hy215
    clear hy215
    replace H := Option.bind_eq_some_iff.mp H
    obtain ⟨t218, A30, H⟩ := H
    replace H : (some (t218.toList == ([7, 0, 0, 0, 2, 97, 98, 0, 0, 0, 0] : List UInt8))) = some r := H
    have A3 := Aside0.mk A30
    clear A30
    obtain rfl := Option.some.inj H
    go_enter Tryd.func11, Tryd.ntmps11
    go_wp2_with (first | ((with_reducible refine gate_callee (f := 9) rfl ?_); refine goesL_ (some 1) rfl rfl Tryd.func9 (by kernel_rfl) rfl #[.string (⟨#[97, 98, 99]⟩ : ByteArray)] rfl (by (try simp only [List.map_toArray, List.map_cons, List.map_nil]); first | done | rfl | (simp only [List.length_drop, List.length_take]; rfl)) ?_; (with_reducible refine (sha_Sum.calls k (⟨#[97, 98, 99]⟩ : ByteArray) t214 _ ?side1 A1.out).mono ?_); (case side1 => repeat (first | exact HRG.out | (with_reducible refine Kd.C_alloc ?_ _) | (with_reducible refine Kd.C_drewN ?_ _) | (with_reducible refine Kd.C_drew ?_))); rintro e w4 ⟨rfl, hb⟩; refine ⟨_, rfl, ?_⟩; have n0_ := Aside0.mk (below_step (by repeat (first | (with_reducible first | exact HB.out | apply below_alloc | apply pw_below_drewN | apply below_drew1) | exact HB.out)) hb); clear HB; have HB := n0_; clear n0_; (try clear hb); (try clear hb2); (try clear hk); (try clear hi)) | ((with_reducible refine gate_dst (N := 4) rfl ?_); (try (refine gate_guard (by rfl) ?_; dsimp only)); refine Kd.R_lit Kd.string _ 9 ?hg (N := 4) ?hd (xs := ([(⟨#[97, 98]⟩ : ByteArray), (⟨#[]⟩ : ByteArray)] : List ByteArray)) (inner := [.string (⟨#[97, 98]⟩ : ByteArray), .string (⟨#[]⟩ : ByteArray)]) (ok := fun _ => True) (okp := fun _ => True) ?hr ?hp (fun _ hk => hk) trivial (Below.refl _ _) (Nat.le_refl _) (by simp) ?_; (case hd => rfl); (case hg => rfl); (case hr => first | (go_simp; done) | (go_simp; rfl)); (case hp => exact (Reps.one (show Kd.M Kd.string _ _ _ (⟨#[97, 98]⟩ : ByteArray) [.string (⟨#[97, 98]⟩ : ByteArray)] from rfl) (Reps.one (show Kd.M Kd.string _ _ _ (⟨#[]⟩ : ByteArray) [.string (⟨#[]⟩ : ByteArray)] from rfl) (Reps.none _ _)))); intro v216 w5 ho6 hb hg_ hnew_; clear hg_ hnew_; (first | rw [← Ny215.out] at ho6 | (simp only [Int.reduceToNat] at ho6; rw [← Ny215.out] at ho6)); have n0_ := Aside0.mk (Kd.R_lower ho6 (below_size (by repeat (first | (with_reducible first | exact HB.out | apply below_alloc | apply pw_below_drewN | apply below_drew1) | exact HB.out)))); have n1_ := Aside0.mk (below_step (by repeat (first | (with_reducible first | exact HB.out | apply below_alloc | apply pw_below_drewN | apply below_drew1) | exact HB.out)) hb); clear HB; have HO217 := n0_; have HB := n1_; clear n0_ n1_; clear hb ho6; obtain ⟨Ao7, co7, eo7⟩ := Kd.R_slice HO217.out; subst eo7) | (go_at_call 13; (with_reducible refine (sha_Input.calls k 7 _ _ y215 t218 _ ?side1 ?side2 A3.out).mono ?_); (case side1 => repeat (first | exact (Kd.R_reads' HO217.out).2.2 | (with_reducible refine Kd.C_alloc ?_ _) | (with_reducible refine Kd.C_drewN ?_ _) | (with_reducible refine Kd.C_drew ?_))); (case side2 => exact (Kd.R_reads' HO217.out).2.1); rintro e w8 ⟨rfl, hb⟩; have n0_ := Aside0.mk (Kd.R_below (by (with_reducible repeat (first | apply Kd.R_alloc | apply Kd.R_drewN | apply Kd.R_drew)); exact HO217.out) hb); have n1_ := Aside0.mk (below_step (by repeat (first | (with_reducible first | exact HB.out | apply below_alloc | apply pw_below_drewN | apply below_drew1) | exact HB.out)) hb); clear HO217; clear HB; have HO217 := n0_; have HB := n1_; clear n0_ n1_; (try clear hb); (try clear hb2); (try clear hk); (try clear hi)))
    go_ret
    exact ⟨by first | rfl | (simp [errW_none, errW_some] <;> rfl) | (simp [*, errW_none, errW_some] <;> rfl), by repeat (first | (with_reducible first | exact HB.out | apply below_alloc | apply pw_below_drewN | apply below_drew1) | exact HB.out)⟩
  · rw [if_neg c2] at H
    have c2b0 : (t214.toList == ([186, 120, 22, 191, 143, 1, 207, 234, 65, 65, 64, 222, 93, 174, 34, 35, 176, 3, 97, 163, 150, 23, 122, 156, 180, 16, 255, 97, 242, 0, 21, 173] : List UInt8)) = false := beq_eq_false_iff_ne.mpr c2
    have c2b1 : (t214.toList != ([186, 120, 22, 191, 143, 1, 207, 234, 65, 65, 64, 222, 93, 174, 34, 35, 176, 3, 97, 163, 150, 23, 122, 156, 180, 16, 255, 97, 242, 0, 21, 173] : List UInt8)) = true := bne_iff_ne.mpr c2
    obtain rfl := Option.some.inj H
    go_enter Tryd.func11, Tryd.ntmps11
    go_wp2_with (first | ((with_reducible refine gate_callee (f := 9) rfl ?_); refine goesL_ (some 1) rfl rfl Tryd.func9 (by kernel_rfl) rfl #[.string (⟨#[97, 98, 99]⟩ : ByteArray)] rfl (by (try simp only [List.map_toArray, List.map_cons, List.map_nil]); first | done | rfl | (simp only [List.length_drop, List.length_take]; rfl)) ?_; (with_reducible refine (sha_Sum.calls k (⟨#[97, 98, 99]⟩ : ByteArray) t214 _ ?side1 A1.out).mono ?_); (case side1 => repeat (first | exact HRG.out | (with_reducible refine Kd.C_alloc ?_ _) | (with_reducible refine Kd.C_drewN ?_ _) | (with_reducible refine Kd.C_drew ?_))); rintro e w9 ⟨rfl, hb⟩; refine ⟨_, rfl, ?_⟩; have n0_ := Aside0.mk (below_step (by repeat (first | (with_reducible first | exact HB.out | apply below_alloc | apply pw_below_drewN | apply below_drew1) | exact HB.out)) hb); clear HB; have HB := n0_; clear n0_; (try clear hb); (try clear hb2); (try clear hk); (try clear hi)))
    go_ret
    exact ⟨by first | rfl | (simp [errW_none, errW_some] <;> rfl) | (simp [*, errW_none, errW_some] <;> rfl), by repeat (first | (with_reducible first | exact HB.out | apply below_alloc | apply pw_below_drewN | apply below_drew1) | exact HB.out)⟩

end Go.Proofs.YtlnodlhlbaigkaaDoor.PP
