-- WRITTEN BY a program of this work (wip/ownprint.py), for this seat
import Derived.Test.YtdodghifojkclaaGreatDoorPPx0
import Derived.Test.YtdodghifojkclaaGreatDoorPPx1
import Derived.Test.YtdodghifojkclaaGreatDoorPPx2
namespace Go.Proofs.YtdodghifojkclaaGreatDoor.PP
open Go.RowKit Go.Proofs.YtdodghifojkclaaGreatDoorW.PrintWords Go.Proofs.YtdodghifojkclaaGreatDoorW.PrintLast Go.Proofs.YtdodghifojkclaaGreatDoorW.PrintMore
attribute [local go_sem] max2_int min2_int max_two min_two max_three min_three max_four min_four   -- for this text's walks alone
set_option linter.unusedVariables false
set_option linter.unusedSimpArgs false

/-! ### J7 = key_parts: function 56 -/
mutual
def J7.j0 : Nat → ByteArray → Int → Bool → Option (Int × List ByteArray × List ByteArray × Bool)
 | 0, _, _, _ => none
 | k + 1, x0, x6, x32 => if x32 = true then (some (0, ([] : List ByteArray), ([] : List ByteArray), false)) else ((U4.f x0).bind fun bt365 => ((Uh.f k bt365.1 bt365.2).bind fun bt368 => (J7.l0 k x6 bt368.1 ([] : List ByteArray) bt368.2.1 bt368.2.2)))
def J7.l0 : Nat → Int → Int → List ByteArray → ByteArray → Bool → Option (Int × List ByteArray × List ByteArray × Bool)
 | 0, _, _, _, _, _ => none
 | k + 1, x6, x8, x9, x368000, x368001 => (Un.f x368000 x368001).bind fun bt371 => (if bt371.1 > 0 then ((Jp.f k bt371.2.1 bt371.2.2 32).bind fun bt374 => (if x9.length < 8796093022208 then (J7.l0 k x6 x8 (x9 ++ [bt374.1]) bt374.2.1 bt374.2.2) else (none))) else (if 0 ≤ x6 then (if x8 ≥ (shl .i64 1 x6) then (some (0, ([] : List ByteArray), ([] : List ByteArray), false)) else (if 67 ≤ x9.length then (some (x8, x9.take 67, x9.drop 67, true)) else (none))) else (none)))
end
def J7.f (k : Nat) (a0 : ByteArray) : Option (Int × List ByteArray × List ByteArray × Bool) := if (a0.size : Int) < 2 then (J7.j0 k a0 (wrap64 ((wrap64 (Int.tdiv (wrap64 ((a0.size : Int) - 2)) 32)) - 67)) true) else (if (Int.tmod (wrap64 ((a0.size : Int) - 2)) 32) = 0 then (if (wrap64 ((wrap64 (Int.tdiv (wrap64 ((a0.size : Int) - 2)) 32)) - 67)) < 0 then (J7.j0 k a0 (wrap64 ((wrap64 (Int.tdiv (wrap64 ((a0.size : Int) - 2)) 32)) - 67)) true) else (J7.j0 k a0 (wrap64 ((wrap64 (Int.tdiv (wrap64 ((a0.size : Int) - 2)) 32)) - 67)) (decide ((wrap64 ((wrap64 (Int.tdiv (wrap64 ((a0.size : Int) - 2)) 32)) - 67)) > 4)))) else (J7.j0 k a0 (wrap64 ((wrap64 (Int.tdiv (wrap64 ((a0.size : Int) - 2)) 32)) - 67)) true))
set_option maxHeartbeats 64000000 in
set_option maxRecDepth 100000 in
theorem J7.calls (k : Nat) (a0 : ByteArray) (r1 : Int) (r2 : List ByteArray) (r3 : List ByteArray) (r4 : Bool) (w : World) (h : J7.f k a0 = some (r1, r2, r3, r4)) :
 Calls Tryz.prog 56 #[.string a0] w fun e w' => ∃ (A1_ A2_ : Option Addr) (c1_ c2_ : Nat), e = .returned (.tuple #[.int .i64 r1, .slice A1_ r2.length c1_, .slice A2_ r3.length c2_, .bool r4]) ∧ Kd.C Kd.string w' A1_ r2.length r2 ∧ r2.length ≤ c1_ ∧ Kd.C Kd.string w' A2_ r3.length r3 ∧ r3.length ≤ c2_ ∧ Below w.heap.size w w' := by
 have HB := Aside0.mk (Below.refl w.heap.size w)
 have H : (if (a0.size : Int) < 2 then (J7.j0 k a0 (wrap64 ((wrap64 (Int.tdiv (wrap64 ((a0.size : Int) - 2)) 32)) - 67)) true) else (if (Int.tmod (wrap64 ((a0.size : Int) - 2)) 32) = 0 then (if (wrap64 ((wrap64 (Int.tdiv (wrap64 ((a0.size : Int) - 2)) 32)) - 67)) < 0 then (J7.j0 k a0 (wrap64 ((wrap64 (Int.tdiv (wrap64 ((a0.size : Int) - 2)) 32)) - 67)) true) else (J7.j0 k a0 (wrap64 ((wrap64 (Int.tdiv (wrap64 ((a0.size : Int) - 2)) 32)) - 67)) (decide ((wrap64 ((wrap64 (Int.tdiv (wrap64 ((a0.size : Int) - 2)) 32)) - 67)) > 4)))) else (J7.j0 k a0 (wrap64 ((wrap64 (Int.tdiv (wrap64 ((a0.size : Int) - 2)) 32)) - 67)) true))) = some (r1, r2, r3, r4) := h
 clear h
 have HC2 := Aside0.mk H
 clear H
 go_enter Tryz.func56, Tryz.ntmps56
 go_upto_region 2 with (fail)
 repeat (go_quiet (fail); go_upto_region 2 with (fail))
 go_cut [32] (fun v32 wc => ∃ (kq : Nat) (x32_1 : Bool), v32 = .bool x32_1 ∧ Aside0 (J7.j0 kq a0 (wrap64 ((wrap64 (Int.tdiv (wrap64 ((a0.size : Int) - 2)) 32)) - 67)) x32_1 = some (r1, r2, r3, r4)) ∧ Aside0 (kq ≤ k) ∧ Aside0 (Below w.heap.size w wc))
 case first =>
  have H := HC2.out
  clear HC2
  by_cases c3 : (a0.size : Int) < 2
  ·rw [if_pos c3] at H
   have c3b0 : decide ((a0.size : Int) < 2) = true := decide_eq_true c3
   have c3b1 : decide (a0.size < 2) = true := decide_eq_true (by omega)
   clear c3
   (first | rw [c3b0] | (simp only [i64_w, i32_w]; rw [c3b0]) | skip)
   have H' := Aside0.mk H
   clear H
   go_wp2
   repeat (go_quiet (fail); try go_wp2)
   go_meet
   case rel => exact ⟨_, (true), vq_, H', ⟨by first | omega | exact Nat.le_refl _⟩, ⟨bl_⟩⟩
  rw [if_neg c3] at H
  have c3b0 : decide ((a0.size : Int) < 2) = false := decide_eq_false c3
  have c3b1 : decide (a0.size < 2) = false := decide_eq_false (by omega)
  clear c3
  (first | rw [c3b0] | (simp only [i64_w, i32_w]; rw [c3b0]) | skip)
  by_cases c4 : (Int.tmod (wrap64 ((a0.size : Int) - 2)) 32) = 0
  ·rw [if_pos c4] at H
   have c4b0 : ((Int.tmod (wrap64 ((a0.size : Int) - 2)) 32) == 0) = true := beq_iff_eq.mpr c4
   have c4b1 : ((Int.tmod (wrap64 ((a0.size : Int) - 2)) 32) != 0) = false := bne_eq_false_iff_eq.mpr c4
   clear c4
   by_cases c5 : (wrap64 ((wrap64 (Int.tdiv (wrap64 ((a0.size : Int) - 2)) 32)) - 67)) < 0
   ·rw [if_pos c5] at H
    have c5b0 : decide ((wrap64 ((wrap64 (Int.tdiv (wrap64 ((a0.size : Int) - 2)) 32)) - 67)) < 0) = true := decide_eq_true c5
    clear c5
    have H' := Aside0.mk H
    clear H
    go_wp2
    repeat (go_quiet (fail); try go_wp2)
    go_meet
    case rel => exact ⟨_, (true), vq_, H', ⟨by first | omega | exact Nat.le_refl _⟩, ⟨bl_⟩⟩
   rw [if_neg c5] at H
   have c5b0 : decide ((wrap64 ((wrap64 (Int.tdiv (wrap64 ((a0.size : Int) - 2)) 32)) - 67)) < 0) = false := decide_eq_false c5
   clear c5
   have H' := Aside0.mk H
   clear H
   go_wp2
   repeat (go_quiet (fail); try go_wp2)
   go_meet
   case rel => exact ⟨_, (decide ((wrap64 ((wrap64 (Int.tdiv (wrap64 ((a0.size : Int) - 2)) 32)) - 67)) > 4)), vq_, H', ⟨by first | omega | exact Nat.le_refl _⟩, ⟨bl_⟩⟩
  rw [if_neg c4] at H
  have c4b0 : ((Int.tmod (wrap64 ((a0.size : Int) - 2)) 32) == 0) = false := beq_eq_false_iff_ne.mpr c4
  have c4b1 : ((Int.tmod (wrap64 ((a0.size : Int) - 2)) 32) != 0) = true := bne_iff_ne.mpr c4
  have H' := Aside0.mk H
  clear H
  go_wp2
  repeat (go_quiet (fail); try go_wp2)
  go_meet
  case rel => exact ⟨_, (true), vq_, H', ⟨by first | omega | exact Nat.le_refl _⟩, ⟨bl_⟩⟩
 case rest =>
  clear HC2
  obtain ⟨kq, x32_1, rfl, HA, HJ1, HB⟩ := hcut
  cases kq with
  | zero => exact absurd HA.out (by simp [J7.j0])
  | succ kj1 =>
   have H := HA.out
   clear HA
   simp only [J7.j0] at H
   by_cases c6 : x32_1 = true
   ·subst c6
    have H1 : (some (0, ([] : List ByteArray), ([] : List ByteArray), false)) = some (r1, r2, r3, r4) := by rw [if_pos rfl] at H; exact H
    clear H
    have H := H1
    clear H1
    simp only [Option.some.injEq, Prod.mk.injEq] at H
    obtain ⟨rfl, rfl, rfl, rfl⟩ := H
    go_wp2
    repeat (go_quiet (fail); try go_wp2)
    refine bodyPost_ret (results_list (rs := [.tmp 2, .tmp 3, .tmp 4, .tmp 5]) rfl (by simp) (.tmp (.tmp (.tmp (.tmp .nil))))) rfl ?_
    exact ⟨none, none, 0, 0, er_, Kd.C_nil _ _, Nat.le_refl _, Kd.C_nil _ _, Nat.le_refl _, bl_⟩
   replace c6 := Bool.eq_false_iff.mpr c6
   subst c6
   have H1 : ((U4.f a0).bind fun bt365 => ((Uh.f kj1 bt365.1 bt365.2).bind fun bt368 => (J7.l0 kj1 (wrap64 ((wrap64 (Int.tdiv (wrap64 ((a0.size : Int) - 2)) 32)) - 67)) bt368.1 ([] : List ByteArray) bt368.2.1 bt368.2.2))) = some (r1, r2, r3, r4) := by rw [if_neg (show ¬ (false = true) by decide)] at H; exact H
   clear H
   have H := H1
   clear H1
   replace H := ob_ H
   obtain ⟨⟨t365, t366⟩, A70, H⟩ := H
   replace H : ((Uh.f kj1 t365 t366).bind fun bt368 => (J7.l0 kj1 (wrap64 ((wrap64 (Int.tdiv (wrap64 ((a0.size : Int) - 2)) 32)) - 67)) bt368.1 ([] : List ByteArray) bt368.2.1 bt368.2.2)) = some (r1, r2, r3, r4) := H
   have A7 := Aside0.mk A70
   clear A70
   replace H := ob_ H
   obtain ⟨⟨t368, t369, t370⟩, A80, H⟩ := H
   replace H : (J7.l0 kj1 (wrap64 ((wrap64 (Int.tdiv (wrap64 ((a0.size : Int) - 2)) 32)) - 67)) t368 ([] : List ByteArray) t369 t370) = some (r1, r2, r3, r4) := H
   have A8 := Aside0.mk A80
   clear A80
   have H' := Aside0.mk H
   clear H
   go_wp2_with (first | (go_at_call 86; (with_reducible refine (U4.calls a0 t365 t366 w _ ?side1 A7.out).mono ?_); (case side1 => repeat (first | (with_reducible first | exact HB.out | apply lA_ | apply lN_ | apply lD_) | exact HB.out)); rintro e w9 ⟨g367, rfl, hi, hb, hb2⟩; have HI367 := Aside0.mk (hi); replace HB := Aside0.mk (hb); clear hb hb2 hi) | (go_at_call 87; (with_reducible refine (Uh.calls kj1 g367 t365 t366 t368 t369 t370 w _ ?side1 ?side2 A8.out).mono ?_); (case side1 => repeat (first | (with_reducible first | exact HI367.out | apply IsS145.alloc | apply IsS145.drewN | apply IsS145.drew | apply IsS145.set_0 | apply IsS145.set_1) | exact HI367.out)); (case side2 => repeat (first | (with_reducible first | exact HB.out | apply lA_ | apply lN_ | apply lD_ | refine lS_ ?_ (IsS145.ge HI367.out)) | exact HB.out)); rintro e w10 ⟨rfl, hi, hb, hk⟩; replace HI367 := Aside0.mk (hi); replace HB := Aside0.mk (hb); clear hb hk hi))
   go_loopg [9] kj1 (fun kq v9 w' => ∃ (x9_2 : List ByteArray) (x368000_2 : ByteArray) (x368001_2 : Bool), Aside0 (J7.l0 kq (wrap64 ((wrap64 (Int.tdiv (wrap64 ((a0.size : Int) - 2)) 32)) - 67)) t368 x9_2 x368000_2 x368001_2 = some (r1, r2, r3, r4)) ∧ Aside0 (kq ≤ kj1) ∧ Aside0 (Kd.R Kd.string 9 w' w.heap.size (fun _ => True) v9 x9_2) ∧ Aside0 (IsS145 w w' g367 x368000_2 x368001_2) ∧ Aside0 (Below w.heap.size w w'))
   case atStart => exact ⟨(([] : List ByteArray)), (t369), (t370), H', ⟨Nat.le_refl _⟩, ⟨by first | exact Kd.R_nil _ _ _ _ _ | exact Kd.N_nil _ _ _ _ _ | exact Kd.V_nil _ _ _ _ _ | exact Kd.Q_nil _ _ _ _ _ | exact Kd.S_nil _ _ _ _ _⟩, ⟨by repeat (first | (with_reducible first | exact HI367.out | apply IsS145.alloc | apply IsS145.drewN | apply IsS145.drew | apply IsS145.set_0 | apply IsS145.set_1) | exact HI367.out)⟩, ⟨bs_ (IsS145.ge HI367.out)⟩⟩
   case round =>
    clear H'
    obtain ⟨x9_2, x368000_2, x368001_2, HA, HK2, HO_9, HI367, HB⟩ := hrel
    cases gk with
    | zero => exact absurd HA.out (by simp [J7.l0])
    | succ k2 =>
     have H := HA.out
     clear HA
     simp only [J7.l0] at H
     replace H := ob_ H
     obtain ⟨⟨t371, t372, t373⟩, A110, H⟩ := H
     replace H : (if t371 > 0 then ((Jp.f k2 t372 t373 32).bind fun bt374 => (if x9_2.length < 8796093022208 then (J7.l0 k2 (wrap64 ((wrap64 (Int.tdiv (wrap64 ((a0.size : Int) - 2)) 32)) - 67)) t368 (x9_2 ++ [bt374.1]) bt374.2.1 bt374.2.2) else (none))) else (if 0 ≤ (wrap64 ((wrap64 (Int.tdiv (wrap64 ((a0.size : Int) - 2)) 32)) - 67)) then (if t368 ≥ (shl .i64 1 (wrap64 ((wrap64 (Int.tdiv (wrap64 ((a0.size : Int) - 2)) 32)) - 67))) then (some (0, ([] : List ByteArray), ([] : List ByteArray), false)) else (if 67 ≤ x9_2.length then (some (t368, x9_2.take 67, x9_2.drop 67, true)) else (none))) else (none))) = some (r1, r2, r3, r4) := H
     have A11 := Aside0.mk A110
     clear A110
     by_cases c12 : t371 > 0
     ·rw [if_pos c12] at H
      have c12b0 : decide (0 < t371) = true := decide_eq_true c12
      clear c12
      replace H := ob_ H
      obtain ⟨⟨t374, t375, t376⟩, A130, H⟩ := H
      replace H : (if x9_2.length < 8796093022208 then (J7.l0 k2 (wrap64 ((wrap64 (Int.tdiv (wrap64 ((a0.size : Int) - 2)) 32)) - 67)) t368 (x9_2 ++ [t374]) t375 t376) else (none)) = some (r1, r2, r3, r4) := H
      have A13 := Aside0.mk A130
      clear A130
      revert H; refine nc_ fun c14 H => ?_
      have LMc14 := Aside0.mk c14
      clear c14
      generalize e_ : (x9_2 ++ [t374] : List ByteArray) = y377 at H
      have Ny377 := Aside0.mk e_.symm
      clear e_
      have H' := Aside0.mk H
      clear H
      go_wp2_with (first | (go_at_call 88; (with_reducible refine (Un.calls g367 x368000_2 x368001_2 t371 t372 t373 w _ ?side1 ?side2 A11.out).mono ?_); (case side1 => repeat (first | (with_reducible first | exact HI367.out | apply IsS145.alloc | apply IsS145.drewN | apply IsS145.drew | apply IsS145.set_0 | apply IsS145.set_1) | exact HI367.out)); (case side2 => repeat (first | (with_reducible first | exact HB.out | apply lA_ | apply lN_ | apply lD_ | refine lS_ ?_ (IsS145.ge HI367.out)) | exact HB.out)); rintro e w15 ⟨rfl, hi, hb, hk⟩; replace HB := Aside0.mk (hb); replace HO_9 := Aside0.mk (Kd.R_mono (Kd.R_keep (IsS145.apart (show IsS145 w _ g367 x368000_2 x368001_2 from by repeat (first | (with_reducible first | exact HI367.out | apply IsS145.alloc | apply IsS145.drewN | apply IsS145.drew | apply IsS145.set_0 | apply IsS145.set_1) | exact HI367.out)) (mv_ HO_9.out) (by decide)) hk (fun _ h => h.2)) (fun _ h => h.1)); replace HI367 := Aside0.mk (hi); clear hb hk hi) | (go_at_call 89; (with_reducible refine (Jp.calls k2 g367 t372 t373 32 t374 t375 t376 w _ ?side1 ?side2 A13.out).mono ?_); (case side1 => repeat (first | (with_reducible first | exact HI367.out | apply IsS145.alloc | apply IsS145.drewN | apply IsS145.drew | apply IsS145.set_0 | apply IsS145.set_1) | exact HI367.out)); (case side2 => repeat (first | (with_reducible first | exact HB.out | apply lA_ | apply lN_ | apply lD_ | refine lS_ ?_ (IsS145.ge HI367.out)) | exact HB.out)); rintro e w16 ⟨rfl, hi, hb, hk⟩; replace HB := Aside0.mk (hb); replace HO_9 := Aside0.mk (Kd.R_mono (Kd.R_keep (IsS145.apart (show IsS145 w _ g367 t372 t373 from by repeat (first | (with_reducible first | exact HI367.out | apply IsS145.alloc | apply IsS145.drewN | apply IsS145.drew | apply IsS145.set_0 | apply IsS145.set_1) | exact HI367.out)) (mv_ HO_9.out) (by decide)) hk (fun _ h => h.2)) (fun _ h => h.1)); replace HI367 := Aside0.mk (hi); clear hb hk hi) | ((with_reducible refine gate_builtin (b := .append) (xs := #[.tmp 40, .tmp 43]) rfl ?_); ((refine gate_guard (by rfl) ?_; dsimp only)); at_builtin; refine Kd.R_append Kd.string (w0 := w) w.heap.size rfl (.tmp 40) (.tmp 43) 22 9 (.string ⟨#[]⟩) 16 rfl Tryz.underlying22 info9 rfl (by decide) (by omega) u9 x9_2 t374 [.string t374] (fun _ => True) (fun _ => False) rfl rfl ?aP (fun _ hk => hk.elim) ?aF ?aO ?aB ?aS ?aL ?_; (case aP => exact rfl); (case aB => exact (bs_ (IsS145.ge HI367.out))); (case aF => exact (fun _ _ => trivial)); (case aO => exact (mv_ HO_9.out)); (case aS => exact (below_size (bs_ (IsS145.ge HI367.out)))); (case aL => have := LMc14.out; omega); intro v378 w17 ho hb hg hat; rw [← Ny377.out] at ho; have HO379 := Aside0.mk (ho); replace HB := Aside0.mk (hb); replace HI367 := Aside0.mk (IsS145.grown (by repeat (first | (with_reducible first | exact HI367.out | apply IsS145.alloc | apply IsS145.drewN | apply IsS145.drew | apply IsS145.set_0 | apply IsS145.set_1) | exact HI367.out)) hg (IsS145.own_ne HI367.out HO_9.out (by decide))); clear HO_9; clear ho hb hg hat))
      go_roundg k2
      case measure => have := HJ1.out; have := HK2.out; omega
      case rel => exact ⟨(y377), (t375), (t376), H', ⟨by have := HJ1.out; have := HK2.out; omega⟩, ⟨mv_ HO379.out⟩, ⟨by repeat (first | (with_reducible first | exact HI367.out | apply IsS145.alloc | apply IsS145.drewN | apply IsS145.drew | apply IsS145.set_0 | apply IsS145.set_1) | exact HI367.out)⟩, ⟨bs_ (IsS145.ge HI367.out)⟩⟩
     rw [if_neg c12] at H
     have c12b0 : decide (0 < t371) = false := decide_eq_false c12
     clear c12
     generalize hji18 : (wrap64 ((wrap64 (Int.tdiv (wrap64 ((a0.size : Int) - 2)) 32)) - 67)) = ji18 at H
     have hji18w := (i64_w _).trans hji18
     revert H; refine ne_ fun c19 c19b0 c19b1 H => ?_
     clear c19
     generalize hji20 : (shl .i64 1 (ji18)) = ji20 at H
     have hji20_ : (IntKind.i64.wrap (1 * 2 ^ min (ji18).toNat 64)) = ji20 := hji20
     have hji20z : (ji18) ≤ 64 → (IntKind.i64.wrap (1 * 2 ^ (ji18).toNat)) = ji20 := shl_small hji20
     have hji20u : (IntKind.i64.wrap (2 ^ min (ji18).toNat 64)) = ji20 := by have h_ := hji20_; rw [Int.one_mul] at h_; exact h_
     have hji20v : (ji18) ≤ 64 → (IntKind.i64.wrap (2 ^ (ji18).toNat)) = ji20 := fun hle_ => by have h_ := hji20z hle_; rw [Int.one_mul] at h_; exact h_
     have hji20y : (wrap64 (1 * 2 ^ min (ji18).toNat 64)) = ji20 := (i64_w _).symm.trans hji20_
     have hji20x : (ji18) ≤ 64 → (wrap64 (1 * 2 ^ (ji18).toNat)) = ji20 := fun h_ => (i64_w _).symm.trans (hji20z h_)
     by_cases c21 : t368 ≥ (ji20)
     ·rw [if_pos c21] at H
      have c21b0 : decide ((ji20) ≤ t368) = true := decide_eq_true c21
      clear c21
      simp only [Option.some.injEq, Prod.mk.injEq] at H
      obtain ⟨rfl, rfl, rfl, rfl⟩ := H
      go_wp2_with (first | (go_at_call 88; (with_reducible refine (Un.calls g367 x368000_2 x368001_2 t371 t372 t373 w _ ?side1 ?side2 A11.out).mono ?_); (case side1 => repeat (first | (with_reducible first | exact HI367.out | apply IsS145.alloc | apply IsS145.drewN | apply IsS145.drew | apply IsS145.set_0 | apply IsS145.set_1) | exact HI367.out)); (case side2 => repeat (first | (with_reducible first | exact HB.out | apply lA_ | apply lN_ | apply lD_ | refine lS_ ?_ (IsS145.ge HI367.out)) | exact HB.out)); rintro e w22 ⟨rfl, hi, hb, hk⟩; replace HB := Aside0.mk (hb); replace HO_9 := Aside0.mk (Kd.R_mono (Kd.R_keep (IsS145.apart (show IsS145 w _ g367 x368000_2 x368001_2 from by repeat (first | (with_reducible first | exact HI367.out | apply IsS145.alloc | apply IsS145.drewN | apply IsS145.drew | apply IsS145.set_0 | apply IsS145.set_1) | exact HI367.out)) (mv_ HO_9.out) (by decide)) hk (fun _ h => h.2)) (fun _ h => h.1)); replace HI367 := Aside0.mk (hi); clear hb hk hi))
      refine bodyPost_ret (results_list (rs := [.tmp 2, .tmp 3, .tmp 4, .tmp 5]) rfl (by simp) (.tmp (.tmp (.tmp (.tmp .nil))))) rfl ?_
      exact ⟨none, none, 0, 0, by first | rfl | (simp [errW_none, errW_some] <;> rfl) | (simp only [← hji18, ← hji20]; first | rfl | (simp [errW_none, errW_some] <;> rfl)) | (simp [*, errW_none, errW_some] <;> rfl), Kd.C_nil _ _, Nat.le_refl _, Kd.C_nil _ _, Nat.le_refl _, bs_ (IsS145.ge HI367.out)⟩
     rw [if_neg c21] at H
     have c21b0 : decide ((ji20) ≤ t368) = false := decide_eq_false c21
     clear c21
     have c67_ : 67 ≤ x9_2.length := by by_cases z_ : 67 ≤ x9_2.length <;> first | exact z_ | (rw [if_neg z_] at H; cases H)
     rw [if_pos c67_] at H
     obtain ⟨A_, c_, e_⟩ := Kd.R_slice HO_9.out
     subst e_
     have hc_ := (Kd.R_reads' HO_9.out).2.1
     obtain ⟨i0_, hi0_, _, hsz_, _⟩ := info_parts info9
     have k1_ := cut_to (P := Tryz.prog) 22 9 .i64 Tryz.underlying22 hi0_ A_ x9_2.length c_ 67 (by decide) (by omega) hc_
     have k2_ := cut_from (P := Tryz.prog) 22 9 .i64 Tryz.underlying22 hi0_ 1 hsz_ A_ x9_2.length c_ 67 (by decide) (by omega)
     obtain ⟨A2_, hA2_⟩ : ∃ z : Option Addr, (if c_ = 67 then A_ else A_.map (·.add (67 * 1))) = z := ⟨_, rfl⟩
     replace k2_ : ∀ W : World, (Instr.slice 22 (.slice A_ x9_2.length c_) (some (.int .i64 67)) none none).run Tryz.prog W = .ok (.slice A2_ (x9_2.length - 67) (c_ - 67)) W := by intro W; rw [k2_ W]; show Result.ok (Value.slice (if c_ = 67 then A_ else A_.map (·.add (67 * 1))) _ _) W = _; rw [hA2_]; rfl
     replace k1_ : ∀ W : World, (Instr.slice 22 (.slice A_ x9_2.length c_) none (some (.int .i64 67)) none).run Tryz.prog W = .ok (.slice A_ 67 c_) W := k1_
     simp only [Option.some.injEq, Prod.mk.injEq] at H
     obtain ⟨rfl, rfl, rfl, rfl⟩ := H
     go_wp2_with (first | (go_at_call 88; (with_reducible refine (Un.calls g367 x368000_2 x368001_2 t371 t372 t373 w _ ?side1 ?side2 A11.out).mono ?_); (case side1 => repeat (first | (with_reducible first | exact HI367.out | apply IsS145.alloc | apply IsS145.drewN | apply IsS145.drew | apply IsS145.set_0 | apply IsS145.set_1) | exact HI367.out)); (case side2 => repeat (first | (with_reducible first | exact HB.out | apply lA_ | apply lN_ | apply lD_ | refine lS_ ?_ (IsS145.ge HI367.out)) | exact HB.out)); rintro e w23 ⟨rfl, hi, hb, hk⟩; replace HB := Aside0.mk (hb); replace HO_9 := Aside0.mk (Kd.R_mono (Kd.R_keep (IsS145.apart (show IsS145 w _ g367 x368000_2 x368001_2 from by repeat (first | (with_reducible first | exact HI367.out | apply IsS145.alloc | apply IsS145.drewN | apply IsS145.drew | apply IsS145.set_0 | apply IsS145.set_1) | exact HI367.out)) (mv_ HO_9.out) (by decide)) hk (fun _ h => h.2)) (fun _ h => h.1)); replace HI367 := Aside0.mk (hi); clear hb hk hi))
     repeat (go_quiet (fail); try go_wp2)
     refine bodyPost_ret (results_list (rs := [.tmp 2, .tmp 3, .tmp 4, .tmp 5]) rfl (by simp) (.tmp (.tmp (.tmp (.tmp .nil))))) rfl ?_
     have hC_ := (Kd.R_reads' HO_9.out).2.2
     have l1_ : (x9_2.take 67).length = 67 := by rw [List.length_take]; omega
     have l2_ : (x9_2.drop 67).length = x9_2.length - 67 := List.length_drop
     have hT_ := Kd.C_take (m := 67) hC_ c67_
     have hD_ := Kd.C_drop (m := 67) hC_ c67_ hc_
     rw [show (if c_ = 67 then A_ else A_.map (·.add (67 * Kd.string.sz))) = A2_ from hA2_] at hD_
     exact ⟨A_, A2_, c_, c_ - 67, by rw [l1_, l2_]; rfl, by (with_reducible repeat (first | apply Kd.C_alloc | apply Kd.C_drewN | apply Kd.C_drew)); exact hT_, by omega, by (with_reducible repeat (first | apply Kd.C_alloc | apply Kd.C_drewN | apply Kd.C_drew)); exact hD_, by omega, bs_ (IsS145.ge HI367.out)⟩

/-! ### Jv = wots_Recover: function 57 -/
mutual
def Jv.j0 : Nat → List ByteArray → List Int → Bool → Option (ByteArray × Bool)
 | 0, _, _, _ => none
 | k + 1, x1, x6, x22 => if x22 = true then (some ((⟨#[]⟩ : ByteArray), false)) else (Jv.l0 k x6 ([] : List ByteArray) x1 (x1.length : Int) 0)
def Jv.l0 : Nat → List Int → List ByteArray → List ByteArray → Int → Int → Option (ByteArray × Bool)
 | 0, _, _, _, _, _ => none
 | k + 1, x6, x8, x23, x24, x25 => if x25 < x24 then (if 0 ≤ x25 then (if x25 < (x23.length : Int) then (if x25 < (x6.length : Int) then ((Ub.f k x25 (rdOf ByteArray.empty x23 x25) (wrap64 (15 - (rd x6 x25)))).bind fun t386 => (if x8.length < 8796093022208 then (Jv.l0 k x6 (x8 ++ [t386]) x23 x24 (wrap64 (x25 + 1))) else (none))) else (none)) else (none)) else (none)) else ((J9.f k 3 x8).bind fun t390 => (some (t390, true)))
end
def Jv.f (k : Nat) (a0 : ByteArray) (l1 : List ByteArray) : Option (ByteArray × Bool) := (Ud.f k a0).bind fun bt380 => (if bt380.2 = true then (Jv.j0 k l1 bt380.1 ((l1.length : Int) != 67)) else (Jv.j0 k l1 bt380.1 true))
set_option maxHeartbeats 64000000 in
set_option maxRecDepth 100000 in
theorem Jv.calls (k : Nat) (a0 : ByteArray) (A1 : Option Addr) (c1 : Nat) (l1 : List ByteArray) (r1 : ByteArray) (r2 : Bool) (w : World) (hr1 : Kd.C Kd.string w A1 l1.length l1) (hc1 : l1.length ≤ c1) (hrG : Kd.C (Kd.int .u32) w (some ⟨0, 0, none⟩) keysL.length keysL) (h : Jv.f k a0 l1 = some (r1, r2)) :
 Calls Tryz.prog 57 #[.string a0, .slice A1 l1.length c1] w fun e w' => e = .returned (.tuple #[.string r1, .bool r2]) ∧ Below w.heap.size w w' := by
 have HR1 := Aside0.mk hr1
 have HC1 := Aside0.mk hc1
 clear hr1 hc1
 have HRG := Aside0.mk hrG
 clear hrG
 have HB := Aside0.mk (Below.refl w.heap.size w)
 have H : ((Ud.f k a0).bind fun bt380 => (if bt380.2 = true then (Jv.j0 k l1 bt380.1 ((l1.length : Int) != 67)) else (Jv.j0 k l1 bt380.1 true))) = some (r1, r2) := h
 clear h
 replace H := ob_ H
 obtain ⟨⟨t380, t381⟩, A30, H⟩ := H
 replace H : (if t381 = true then (Jv.j0 k l1 t380 ((l1.length : Int) != 67)) else (Jv.j0 k l1 t380 true)) = some (r1, r2) := H
 have A3 := Aside0.mk A30
 clear A30
 have HC4 := Aside0.mk H
 clear H
 go_enter Tryz.func57, Tryz.ntmps57
 go_upto_region 2 with (first | ((with_reducible refine gate_callee (f := 82) rfl ?_); refine gL_ 13 Tryz.func82 #[.string a0] ?_; (with_reducible refine (Ud.calls k a0 t380 t381 _ A3.out).mono ?_); rintro e w5 ⟨v382, rfl, ho0, hb⟩; refine ⟨_, rfl, ?_⟩; have HO383 := Aside0.mk (Kd.R_lower ho0 (below_size bl_)); replace HB := Aside0.mk (below_step bl_ hb); clear hb ho0))
 go_cut [22] (fun v22 wc => ∃ (kq : Nat) (x22_3 : Bool), v22 = .bool x22_3 ∧ Aside0 (Jv.j0 kq l1 t380 x22_3 = some (r1, r2)) ∧ Aside0 (kq ≤ k) ∧ Aside0 (Kd.R (Kd.int .i64) 3 wc w.heap.size (fun _ => True) v382 t380) ∧ Aside0 (Below w.heap.size w wc))
 case first =>
  have H := HC4.out
  clear HC4
  by_cases c6 : t381 = true
  ·subst c6
   have H1 : (Jv.j0 k l1 t380 ((l1.length : Int) != 67)) = some (r1, r2) := by rw [if_pos rfl] at H; exact H
   clear H
   have H := H1
   clear H1
   have H' := Aside0.mk H
   clear H
   go_wp2
   go_meet
   case rel => exact ⟨_, (((l1.length : Int) != 67)), vq_, H', ⟨by first | omega | exact Nat.le_refl _⟩, ⟨mv_ HO383.out⟩, ⟨bl_⟩⟩
  replace c6 := Bool.eq_false_iff.mpr c6
  subst c6
  have H1 : (Jv.j0 k l1 t380 true) = some (r1, r2) := by rw [if_neg (show ¬ (false = true) by decide)] at H; exact H
  clear H
  have H := H1
  clear H1
  have H' := Aside0.mk H
  clear H
  go_wp2
  go_meet
  case rel => exact ⟨_, (true), vq_, H', ⟨by first | omega | exact Nat.le_refl _⟩, ⟨mv_ HO383.out⟩, ⟨bl_⟩⟩
 case rest =>
  clear HC4
  obtain ⟨kq, x22_3, rfl, HA, HJ3, HO_6, HB⟩ := hcut
  cases kq with
  | zero => exact absurd HA.out (by simp [Jv.j0])
  | succ kj3 =>
   have H := HA.out
   clear HA
   simp only [Jv.j0] at H
   by_cases c7 : x22_3 = true
   ·subst c7
    have H1 : (some ((⟨#[]⟩ : ByteArray), false)) = some (r1, r2) := by rw [if_pos rfl] at H; exact H
    clear H
    have H := H1
    clear H1
    simp only [Option.some.injEq, Prod.mk.injEq] at H
    obtain ⟨rfl, rfl⟩ := H
    go_wp2
    go_ret2
    exact ⟨er_, bl_⟩
   replace c7 := Bool.eq_false_iff.mpr c7
   subst c7
   have H1 : (Jv.l0 kj3 t380 ([] : List ByteArray) l1 (l1.length : Int) 0) = some (r1, r2) := by rw [if_neg (show ¬ (false = true) by decide)] at H; exact H
   clear H
   have H := H1
   clear H1
   have H' := Aside0.mk H
   clear H
   go_wp2
   go_loopg [8, 25] kj3 (fun kq v8 v25 w' => ∃ (x8_2 : List ByteArray) (x25_2 : Int), v25 = .int .i64 x25_2 ∧ Aside0 (Jv.l0 kq t380 x8_2 l1 (l1.length : Int) x25_2 = some (r1, r2)) ∧ Aside0 (kq ≤ kj3) ∧ Aside0 (Kd.R (Kd.int .i64) 3 w' w.heap.size (fun _ => True) v382 t380) ∧ Aside0 (Kd.R Kd.string 9 w' w.heap.size (fun _ => True) v8 x8_2) ∧ Aside0 (Below w.heap.size w w'))
   case atStart => exact ⟨(([] : List ByteArray)), (0), vq_, H', ⟨Nat.le_refl _⟩, ⟨mv_ HO_6.out⟩, ⟨by first | exact Kd.R_nil _ _ _ _ _ | exact Kd.N_nil _ _ _ _ _ | exact Kd.V_nil _ _ _ _ _ | exact Kd.Q_nil _ _ _ _ _ | exact Kd.S_nil _ _ _ _ _⟩, ⟨bl_⟩⟩
   case round =>
    clear H'
    obtain ⟨x8_2, x25_2, rfl, HA, HK2, HO_6, HO_8, HB⟩ := hrel
    cases gk with
    | zero => exact absurd HA.out (by simp [Jv.l0])
    | succ k2 =>
     have H := HA.out
     clear HA
     simp only [Jv.l0] at H
     by_cases c8 : x25_2 < (l1.length : Int)
     ·rw [if_pos c8] at H
      have c8b0 : decide (x25_2 < (l1.length : Int)) = true := decide_eq_true c8
      clear c8
      revert H; refine nd_ fun c9 c9b0 => nd_ fun c10 c10b0 => nd_ fun c11 c11b0 => oa_ fun t386 A12 => nc_ fun c13 H => ?_
      have LMc13 := Aside0.mk c13
      clear c9 c10 c11 c13
      generalize e_ : (x8_2 ++ [t386] : List ByteArray) = y387 at H
      have Ny387 := Aside0.mk e_.symm
      clear e_
      have H' := Aside0.mk H
      clear H
      have p384 : 0 ≤ (x25_2 : Int) := ae_
      have q384 : x25_2 < (l1.length : Int) := ae_
      obtain ⟨ad384, e384, hx384_0⟩ := Kd.at_string HR1.out x25_2 p384 q384
      cases e384
      replace hx384_0 := (HB.out.cell (World.block_lt_of_cell? w _ hx384_0)).trans hx384_0
      replace p384 := eq_true p384
      replace q384 := eq_true q384
      obtain ⟨Ao14, co14, eo14⟩ := Kd.R_slice HO_6.out
      subst eo14
      have p385 : 0 ≤ (x25_2 : Int) := ae_
      have q385 : x25_2 < (t380.length : Int) := ae_
      obtain ⟨ad385, e385, hx385_0⟩ := Kd.at_int (Kd.R_reads' HO_6.out).2.2 x25_2 p385 q385
      cases e385
      replace p385 := eq_true p385
      replace q385 := eq_true q385
      go_wp2_with (first | ((with_reducible refine gate_callee (f := 90) rfl ?_); refine gL_ 38 Tryz.func90 #[.int .i64 x25_2, .string (rdOf ByteArray.empty l1 x25_2), .int .i64 (wrap64 (15 - (rd t380 x25_2)))] ?_; (with_reducible refine (Ub.calls k2 x25_2 (rdOf ByteArray.empty l1 x25_2) (wrap64 (15 - (rd t380 x25_2))) t386 _ ?side1 A12.out).mono ?_); (case side1 => repeat (first | exact (Kd.C_below HRG.out HB.out) | (with_reducible refine Kd.C_alloc ?_ _) | (with_reducible refine Kd.C_drewN ?_ _) | (with_reducible refine Kd.C_drew ?_))); rintro e w15 ⟨rfl, hb⟩; refine ⟨_, rfl, ?_⟩; replace HB := Aside0.mk (below_step bl_ hb); replace HO_8 := Aside0.mk (Kd.R_below (mv_ HO_8.out) hb); replace HO_6 := Aside0.mk (Kd.R_below (mv_ HO_6.out) hb); clear hb) | ((with_reducible refine gate_builtin (b := .append) (xs := #[.tmp 30, .tmp 39]) rfl ?_); ((refine gate_guard (by rfl) ?_; dsimp only)); at_builtin; refine Kd.R_append Kd.string (w0 := w) w.heap.size rfl (.tmp 30) (.tmp 39) 22 9 (.string ⟨#[]⟩) 16 rfl Tryz.underlying22 info9 rfl (by decide) (by omega) u8 x8_2 t386 [.string t386] (fun _ => True) (fun _ => False) rfl rfl ?aP (fun _ hk => hk.elim) ?aF ?aO ?aB ?aS ?aL ?_; (case aP => exact rfl); (case aB => exact bl_); (case aF => exact (fun _ _ => trivial)); (case aO => exact (mv_ HO_8.out)); (case aS => exact (below_size bl_)); (case aL => have := LMc13.out; omega); intro v388 w16 ho hb hg hat; rw [← Ny387.out] at ho; have HO389 := Aside0.mk (ho); replace HB := Aside0.mk (hb); replace HO_6 := Aside0.mk (Kd.R_over' (mv_ HO_6.out) (Kd.R_typed (mv_ HO_8.out)) (by decide) hg); clear HO_8; clear ho hb hg hat))
      go_roundg k2
      case measure => have := HJ3.out; have := HK2.out; omega
      case rel => exact ⟨(y387), (wrap64 (x25_2 + 1)), vq_, H', ⟨by have := HJ3.out; have := HK2.out; omega⟩, ⟨mv_ HO_6.out⟩, ⟨mv_ HO389.out⟩, ⟨bl_⟩⟩
     rw [if_neg c8] at H
     have c8b0 : decide (x25_2 < (l1.length : Int)) = false := decide_eq_false c8
     clear c8
     revert H; refine oa_ fun t390 A17 H => ?_
     simp only [Option.some.injEq, Prod.mk.injEq] at H
     obtain ⟨rfl, rfl⟩ := H
     obtain ⟨Ao18, co18, eo18⟩ := Kd.R_slice HO_8.out
     subst eo18
     go_wp2_with (first | ((with_reducible refine gate_callee (f := 45) rfl ?_); refine gL_ 43 Tryz.func45 #[.int .i64 3, .slice Ao18 x8_2.length co18] ?_; (with_reducible refine (J9.calls k2 3 _ _ x8_2 t390 _ ?side1 ?side2 ?side3 A17.out).mono ?_); (case side1 => repeat (first | exact (Kd.R_reads' HO_8.out).2.2 | (with_reducible refine Kd.C_alloc ?_ _) | (with_reducible refine Kd.C_drewN ?_ _) | (with_reducible refine Kd.C_drew ?_))); (case side2 => exact (Kd.R_reads' HO_8.out).2.1); (case side3 => repeat (first | exact (Kd.C_below HRG.out HB.out) | (with_reducible refine Kd.C_alloc ?_ _) | (with_reducible refine Kd.C_drewN ?_ _) | (with_reducible refine Kd.C_drew ?_))); rintro e w19 ⟨rfl, hb⟩; refine ⟨_, rfl, ?_⟩; replace HB := Aside0.mk (below_step bl_ hb); replace HO_8 := Aside0.mk (Kd.R_below (mv_ HO_8.out) hb); replace HO_6 := Aside0.mk (Kd.R_below (mv_ HO_6.out) hb); clear hb))
     go_ret2
     exact ⟨er_, bl_⟩

/-! ### J1 = merkle_Fold: function 58 -/
mutual
def J1.j0 : Nat → ByteArray → Int → List ByteArray → Bool → Option (ByteArray × Bool)
 | 0, _, _, _, _ => none
 | k + 1, x0, x1, x2, x24 => if x24 = true then (some ((⟨#[]⟩ : ByteArray), false)) else (J1.l0 k x0 x1 x2 (x2.length : Int) 0)
def J1.l0 : Nat → ByteArray → Int → List ByteArray → Int → Int → Option (ByteArray × Bool)
 | 0, _, _, _, _, _ => none
 | k + 1, x0, x1, x25, x26, x27 => if x27 < x26 then (if 0 ≤ x27 then (if x27 < (x25.length : Int) then ((some (List.replicate 2 (⟨#[]⟩ : ByteArray) : List ByteArray)).bind fun y392 => (if y392.length = 2 then (if 0 < (y392.length : Int) then (if (Go.bits .and .i64 x1 1) = 1 then ((J9.f k 4 ([rdOf ByteArray.empty x25 x27, x0])).bind fun t397 => (J1.l0 k t397 (x1 / 2) x25 x26 (wrap64 (x27 + 1)))) else ((J9.f k 4 ([x0, rdOf ByteArray.empty x25 x27])).bind fun t398 => (J1.l0 k t398 (x1 / 2) x25 x26 (wrap64 (x27 + 1))))) else (none)) else (none))) else (none)) else (none)) else (some (x0, true))
end
def J1.f (k : Nat) (a0 : ByteArray) (a1 : Int) (l2 : List ByteArray) : Option (ByteArray × Bool) := if (l2.length : Int) > 4 then (J1.j0 k a0 a1 l2 true) else (if a1 < 0 then (J1.j0 k a0 a1 l2 true) else (J1.j0 k a0 a1 l2 (decide (a1 ≥ (shl .i64 1 (l2.length : Int))))))
set_option maxHeartbeats 64000000 in
set_option maxRecDepth 100000 in
theorem J1.calls (k : Nat) (a0 : ByteArray) (a1 : Int) (A2 : Option Addr) (c2 : Nat) (l2 : List ByteArray) (r1 : ByteArray) (r2 : Bool) (w : World) (hr2 : Kd.C Kd.string w A2 l2.length l2) (hc2 : l2.length ≤ c2) (hrG : Kd.C (Kd.int .u32) w (some ⟨0, 0, none⟩) keysL.length keysL) (h : J1.f k a0 a1 l2 = some (r1, r2)) :
 Calls Tryz.prog 58 #[.string a0, .int .i64 a1, .slice A2 l2.length c2] w fun e w' => e = .returned (.tuple #[.string r1, .bool r2]) ∧ Below w.heap.size w w' := by
 have hu128 := Tryz.underlying128
 have HR2 := Aside0.mk hr2
 have HC2 := Aside0.mk hc2
 clear hr2 hc2
 have HRG := Aside0.mk hrG
 clear hrG
 have HB := Aside0.mk (Below.refl w.heap.size w)
 have H : (if (l2.length : Int) > 4 then (J1.j0 k a0 a1 l2 true) else (if a1 < 0 then (J1.j0 k a0 a1 l2 true) else (J1.j0 k a0 a1 l2 (decide (a1 ≥ (shl .i64 1 (l2.length : Int))))))) = some (r1, r2) := h
 clear h
 have HC4 := Aside0.mk H
 clear H
 go_enter Tryz.func58, Tryz.ntmps58
 go_upto_region 1 with (fail)
 go_cut [24] (fun v24 wc => ∃ (kq : Nat) (x24_3 : Bool), v24 = .bool x24_3 ∧ Aside0 (J1.j0 kq a0 a1 l2 x24_3 = some (r1, r2)) ∧ Aside0 (kq ≤ k) ∧ Aside0 (Below w.heap.size w wc))
 case first =>
  have H := HC4.out
  clear HC4
  by_cases c5 : (l2.length : Int) > 4
  ·rw [if_pos c5] at H
   have c5b0 : decide (4 < (l2.length : Int)) = true := decide_eq_true c5
   have c5b1 : decide (4 < l2.length) = true := decide_eq_true (by omega)
   clear c5
   (first | rw [c5b0] | (simp only [i64_w, i32_w]; rw [c5b0]) | skip)
   have H' := Aside0.mk H
   clear H
   go_wp2
   go_meet
   case rel => exact ⟨_, (true), vq_, H', ⟨by first | omega | exact Nat.le_refl _⟩, ⟨bl_⟩⟩
  rw [if_neg c5] at H
  have c5b0 : decide (4 < (l2.length : Int)) = false := decide_eq_false c5
  have c5b1 : decide (4 < l2.length) = false := decide_eq_false (by omega)
  clear c5
  (first | rw [c5b0] | (simp only [i64_w, i32_w]; rw [c5b0]) | skip)
  by_cases c6 : a1 < 0
  ·rw [if_pos c6] at H
   have c6b0 : decide (a1 < 0) = true := decide_eq_true c6
   clear c6
   have H' := Aside0.mk H
   clear H
   go_wp2
   go_meet
   case rel => exact ⟨_, (true), vq_, H', ⟨by first | omega | exact Nat.le_refl _⟩, ⟨bl_⟩⟩
  rw [if_neg c6] at H
  have c6b0 : decide (a1 < 0) = false := decide_eq_false c6
  clear c6
  generalize hji7 : (shl .i64 1 (l2.length : Int)) = ji7 at H
  have hji7_ : (IntKind.i64.wrap (1 * 2 ^ min (l2.length : Int).toNat 64)) = ji7 := hji7
  have hji7z : (l2.length : Int) ≤ 64 → (IntKind.i64.wrap (1 * 2 ^ (l2.length : Int).toNat)) = ji7 := shl_small hji7
  (have hji7n : (0 ≤ (l2.length : Int)) = True := eq_true (by omega))
  have hji7p : (IntKind.i64.wrap (1 * 2 ^ min l2.length 64)) = ji7 := hji7_
  have hji7q : (l2.length : Int) ≤ 64 → (IntKind.i64.wrap (1 * 2 ^ l2.length)) = ji7 := hji7z
  have hji7r : (IntKind.i64.wrap (2 ^ min l2.length 64)) = ji7 := by have h_ := hji7p; rw [Int.one_mul] at h_; exact h_
  have hji7s : (l2.length : Int) ≤ 64 → (IntKind.i64.wrap (2 ^ l2.length)) = ji7 := fun hle_ => by have h_ := hji7q hle_; rw [Int.one_mul] at h_; exact h_
  have hji7u : (IntKind.i64.wrap (2 ^ min (l2.length : Int).toNat 64)) = ji7 := by have h_ := hji7_; rw [Int.one_mul] at h_; exact h_
  have hji7v : (l2.length : Int) ≤ 64 → (IntKind.i64.wrap (2 ^ (l2.length : Int).toNat)) = ji7 := fun hle_ => by have h_ := hji7z hle_; rw [Int.one_mul] at h_; exact h_
  have hji7y : (wrap64 (1 * 2 ^ min (l2.length : Int).toNat 64)) = ji7 := (i64_w _).symm.trans hji7_
  have hji7x : (l2.length : Int) ≤ 64 → (wrap64 (1 * 2 ^ (l2.length : Int).toNat)) = ji7 := fun h_ => (i64_w _).symm.trans (hji7z h_)
  have H' := Aside0.mk H
  clear H
  go_wp2
  go_meet
  case rel => exact ⟨_, (decide (a1 ≥ (ji7))), (by first | rfl | (simp; done) | (simp only [← hji7] <;> (first | rfl | simp)) | (simp [*]; done) | exact congrArg Value.bool (nonempty_l _) | (refine congrArg (Value.int _) ?_; first | omega | (unfold wrap64; omega))), H', ⟨by first | omega | exact Nat.le_refl _⟩, ⟨bl_⟩⟩
 case rest =>
  clear HC4
  obtain ⟨kq, x24_3, rfl, HA, HJ3, HB⟩ := hcut
  cases kq with
  | zero => exact absurd HA.out (by simp [J1.j0])
  | succ kj3 =>
   have H := HA.out
   clear HA
   simp only [J1.j0] at H
   by_cases c8 : x24_3 = true
   ·subst c8
    have H1 : (some ((⟨#[]⟩ : ByteArray), false)) = some (r1, r2) := by rw [if_pos rfl] at H; exact H
    clear H
    have H := H1
    clear H1
    simp only [Option.some.injEq, Prod.mk.injEq] at H
    obtain ⟨rfl, rfl⟩ := H
    go_wp2
    go_ret2
    exact ⟨er_, bl_⟩
   replace c8 := Bool.eq_false_iff.mpr c8
   subst c8
   have H1 : (J1.l0 kj3 a0 a1 l2 (l2.length : Int) 0) = some (r1, r2) := by rw [if_neg (show ¬ (false = true) by decide)] at H; exact H
   clear H
   have H := H1
   clear H1
   have H' := Aside0.mk H
   clear H
   go_wp2
   go_loopg [0, 1, 27] kj3 (fun kq v0 v1 v27 w' => ∃ (x0_2 : ByteArray) (x1_2 : Int) (x27_2 : Int), v0 = .string x0_2 ∧ v1 = .int .i64 x1_2 ∧ v27 = .int .i64 x27_2 ∧ Aside0 (J1.l0 kq x0_2 x1_2 l2 (l2.length : Int) x27_2 = some (r1, r2)) ∧ Aside0 (kq ≤ kj3) ∧ Aside0 (Below w.heap.size w w'))
   case atStart => exact ⟨(a0), (a1), (0), vq_, vq_, vq_, H', ⟨Nat.le_refl _⟩, ⟨bl_⟩⟩
   case round =>
    clear H'
    obtain ⟨x0_2, x1_2, x27_2, rfl, rfl, rfl, HA, HK2, HB⟩ := hrel
    cases gk with
    | zero => exact absurd HA.out (by simp [J1.l0])
    | succ k2 =>
     have H := HA.out
     clear HA
     simp only [J1.l0] at H
     by_cases c9 : x27_2 < (l2.length : Int)
     ·rw [if_pos c9] at H
      have c9b0 : decide (x27_2 < (l2.length : Int)) = true := decide_eq_true c9
      clear c9
      revert H; refine nd_ fun c10 c10b0 => nd_ fun c11 c11b0 => oy_ fun y392 Ny392 => ne_ fun c12 c12b0 c12b1 => nd_ fun c13 c13b0 H => ?_
      have c13b1 : decide (0 < y392.length) = true := decide_eq_true (by omega)
      clear c10 c11 c12 c13
      generalize e_ : ([x0_2, rdOf ByteArray.empty l2 x27_2] : List ByteArray) = y395 at H
      have Ny395 := Aside0.mk e_.symm
      clear e_
      by_cases c15 : (Go.bits .and .i64 x1_2 1) = 1
      ·rw [if_pos c15] at H
       have c15b0 : ((Go.bits .and .i64 x1_2 1) == 1) = true := beq_iff_eq.mpr c15
       have c15b1 : ((Go.bits .and .i64 x1_2 1) != 1) = false := bne_eq_false_iff_eq.mpr c15
       clear c15
       generalize e_ : ([rdOf ByteArray.empty l2 x27_2, x0_2] : List ByteArray) = y396 at H
       have Ny396 := Aside0.mk e_.symm
       clear e_
       revert H; refine oa_ fun t397 A18 H => ?_
       have H' := Aside0.mk H
       clear H
       have p391 : 0 ≤ (x27_2 : Int) := ae_
       have q391 : x27_2 < (l2.length : Int) := ae_
       obtain ⟨ad391, e391, hx391_0⟩ := Kd.at_string HR2.out x27_2 p391 q391
       cases e391
       replace hx391_0 := (HB.out.cell (World.block_lt_of_cell? w _ hx391_0)).trans hx391_0
       replace p391 := eq_true p391
       replace q391 := eq_true q391
       go_wp2_with (first | ((with_reducible refine gate_dst (N := 10) rfl ?_); ((refine gate_guard (by rfl) ?_; dsimp only)); refine R_arr Value.string (fun _ => rfl) _ 128 ?hg (N := 10) ?hd (List.replicate 2 (⟨#[]⟩ : ByteArray)) ?hr (Below.refl _ _) (Nat.le_refl _) (by decide) ?_; (case hd => rfl); (case hg => rfl); (case hr => exact gr_); intro v393 w19 ho20 hb hg_ hnew_; clear hg_ hnew_; (first | rw [← Ny392.out] at ho20 | (simp only [Int.reduceToNat] at ho20; rw [← Ny392.out] at ho20)); have HO394 := Aside0.mk (Kd.R_lower ho20 (below_size bl_)); replace HB := Aside0.mk (below_step bl_ hb); clear hb ho20; have qa14 : ((0 : Int) < (2 : Int)) = True := eq_true (by have e_ : y392.length = 2 := ae_; have h_ : (0 : Int) < ((y392.length : Int) : Int) := ae_; omega); have p14 : 0 ≤ (0 : Int) := (by omega); have q14 : (0 : Int) < ((y392.length : Int) : Int) := ae_; have qi14 : (0 < y392.length) = True := eq_true (by omega); obtain ⟨go14, co14, eo14, gb14, gl14, cl14, HG14⟩ := Kd.R_form HO394.out (by omega); (first | cases eo14 | (injection eo14 with ea_ en_ ec_; (first | subst ea_ | (injection ea_ with ea_; subst ea_)); subst ec_; clear en_)); have GB14 := Aside0.mk gb14; have GG14 := Aside0.mk HG14; clear gb14 gl14 HG14; obtain ⟨hx14_0, hf14_0⟩ := Kd.R_celln (⟨#[]⟩ : ByteArray) HO394.out (0 : Int) p14 q14; (rw [show ((0 : Int)).toNat = 0 from rfl] at hx14_0); (rw [show ((0 : Int)).toNat = 0 from rfl] at hf14_0); replace p14 := eq_true p14; replace q14 := eq_true q14; have HP21 := R_whole (ys := [x0_2, rdOf ByteArray.empty l2 x27_2]) HO394.out (by have e_ : y392.length = 2 := ae_; have e2_ := (Kd.R_reads' HO394.out).1; first | (rw [e_]; rfl) | (simp only [List.length_cons, List.length_nil]; omega))) | ((with_reducible refine gate_store (t := 128) (p := 10) rfl ?_); refine store_event (t := 128) (p := 10) (v := ?vo_w22) (w1 := (w19.setCells go14 0 (encs Value.string [x0_2, rdOf ByteArray.empty l2 x27_2]))) ?hg ?ho ?hn ?hr ?_; (case ho => rfl); (case hg => rfl); (case hn => rfl); (case hr => exact whole_run (ys := [x0_2, rdOf ByteArray.empty l2 x27_2]) rfl rfl rfl (by kernel_rfl) HO394.out (by have e_ : y392.length = 2 := ae_; have e2_ := (Kd.R_reads' HO394.out).1; first | (rw [e_]; rfl) | (simp only [List.length_cons, List.length_nil]; omega))); intro w22 hw; have hg : w19.grownBy w22 (some go14) := (by rw [hw]; exact HP21.2); have hp_ : Kd.R Kd.string 128 w22 w.heap.size (fun _ => True) (.slice (some ⟨go14, 0, none⟩) y392.length co14) y395 := (by rw [hw, Ny395.out]; exact HP21.1); clear HP21; replace HB := Aside0.mk ((Below.grown HB.out hg (below_size HB.out) (fun k_ e_ => (Option.some.inj e_) ▸ GB14.out) : Below w.heap.size w w22)); replace HO394 := Aside0.mk (hp_); clear hg hw hp_; have qa16 : ((0 : Int) < (2 : Int)) = True := eq_true (by have e_ : y392.length = 2 := ae_; have h_ : (0 : Int) < ((y392.length : Int) : Int) := ae_; omega); have p16 : 0 ≤ (0 : Int) := (by omega); have q16 : (0 : Int) < ((y392.length : Int) : Int) := ae_; have qi16 : (0 < y392.length) = True := eq_true (by omega); obtain ⟨hx16_0, hf16_0⟩ := Kd.R_celln (⟨#[]⟩ : ByteArray) HO394.out (0 : Int) p16 q16; (rw [show ((0 : Int)).toNat = 0 from rfl] at hx16_0); (rw [show ((0 : Int)).toNat = 0 from rfl] at hf16_0); replace p16 := eq_true p16; replace q16 := eq_true q16; have HP23 := R_whole (ys := [rdOf ByteArray.empty l2 x27_2, x0_2]) HO394.out (by have e_ : y392.length = 2 := ae_; have e2_ := (Kd.R_reads' HO394.out).1; first | (rw [e_]; rfl) | (simp only [List.length_cons, List.length_nil]; omega))) | ((with_reducible refine gate_store (t := 128) (p := 10) rfl ?_); refine store_event (t := 128) (p := 10) (v := ?vo_w24) (w1 := (w22.setCells go14 0 (encs Value.string [rdOf ByteArray.empty l2 x27_2, x0_2]))) ?hg ?ho ?hn ?hr ?_; (case ho => rfl); (case hg => rfl); (case hn => rfl); (case hr => exact whole_run (ys := [rdOf ByteArray.empty l2 x27_2, x0_2]) rfl rfl rfl (by kernel_rfl) HO394.out (by have e_ : y392.length = 2 := ae_; have e2_ := (Kd.R_reads' HO394.out).1; first | (rw [e_]; rfl) | (simp only [List.length_cons, List.length_nil]; omega))); intro w24 hw; have hg : w22.grownBy w24 (some go14) := (by rw [hw]; exact HP23.2); have hp_ : Kd.R Kd.string 128 w24 w.heap.size (fun _ => True) (.slice (some ⟨go14, 0, none⟩) y392.length co14) y396 := (by rw [hw, Ny396.out]; exact HP23.1); clear HP23; replace HB := Aside0.mk ((Below.grown HB.out hg (below_size HB.out) (fun k_ e_ => (Option.some.inj e_) ▸ GB14.out) : Below w.heap.size w w24)); replace HO394 := Aside0.mk (hp_); clear hg hw hp_; have qa17 : ((0 : Int) < (2 : Int)) = True := eq_true (by have e_ : y392.length = 2 := ae_; have h_ : (0 : Int) < ((y392.length : Int) : Int) := ae_; omega); have p17 : 0 ≤ (0 : Int) := (by omega); have q17 : (0 : Int) < ((y392.length : Int) : Int) := ae_; have qi17 : (0 < y392.length) = True := eq_true (by omega); obtain ⟨hx17_0, hf17_0⟩ := Kd.R_celln (⟨#[]⟩ : ByteArray) HO394.out (0 : Int) p17 q17; (rw [show ((0 : Int)).toNat = 0 from rfl] at hx17_0); (rw [show ((0 : Int)).toNat = 0 from rfl] at hf17_0); replace p17 := eq_true p17; replace q17 := eq_true q17) | ((with_reducible refine gate_dst (N := 40) rfl ?_); ((refine gate_guard (by rfl) ?_; dsimp only)); refine aslice_event (P := Tryz.prog) rfl (N := 40) rfl 128 9 2 _ _ rfl rfl Tryz.underlying128 (by go_simp) ?_) | ((with_reducible refine gate_callee (f := 45) rfl ?_); refine goesL_ (some 41) rfl rfl Tryz.func45 (by kernel_rfl) rfl #[.int .i64 4, .slice (some ⟨go14, 0, none⟩) y396.length 2] rfl (by (simp only [List.map_toArray, List.map_cons, List.map_nil]); first | done | (rw [show y396.length = 2 from (by have e_ : y392.length = 2 := (by first | rfl | exact ae_); have e2_ := (Kd.R_reads' HO394.out).1; omega)] <;> rfl) | rfl | (simp only [List.length_drop, List.length_take]; rfl)) ?_; (with_reducible refine (J9.calls k2 4 _ _ y396 t397 _ ?side1 ?side2 ?side3 A18.out).mono ?_); (case side1 => repeat (first | exact (Kd.R_reads' HO394.out).2.2 | (with_reducible refine Kd.C_alloc ?_ _) | (with_reducible refine Kd.C_drewN ?_ _) | (with_reducible refine Kd.C_drew ?_))); (case side2 => rw [show y396.length = 2 from (by have e_ : y392.length = 2 := (by first | rfl | exact ae_); have e2_ := (Kd.R_reads' HO394.out).1; omega)]; first | done | exact Nat.le_refl _ | exact Nat.le_of_eq (by have e_ : y392.length = 2 := (by first | rfl | exact ae_); have e2_ := (Kd.R_reads' HO394.out).1; omega)); (case side3 => repeat (first | exact (Kd.C_below HRG.out HB.out) | (with_reducible refine Kd.C_alloc ?_ _) | (with_reducible refine Kd.C_drewN ?_ _) | (with_reducible refine Kd.C_drew ?_))); rintro e w26 ⟨rfl, hb⟩; refine ⟨_, rfl, ?_⟩; replace HB := Aside0.mk (below_step bl_ hb); replace HO394 := Aside0.mk (Kd.R_below (mv_ HO394.out) hb); clear hb))
       go_roundg k2
       case measure => have := HJ3.out; have := HK2.out; omega
       case rel => exact ⟨(t397), (x1_2 / 2), (wrap64 (x27_2 + 1)), vq_, vq_, vq_, H', ⟨by have := HJ3.out; have := HK2.out; omega⟩, ⟨bl_⟩⟩
      rw [if_neg c15] at H
      have c15b0 : ((Go.bits .and .i64 x1_2 1) == 1) = false := beq_eq_false_iff_ne.mpr c15
      have c15b1 : ((Go.bits .and .i64 x1_2 1) != 1) = true := bne_iff_ne.mpr c15
      revert H; refine oa_ fun t398 A28 H => ?_
      have H' := Aside0.mk H
      clear H
      have p391 : 0 ≤ (x27_2 : Int) := ae_
      have q391 : x27_2 < (l2.length : Int) := ae_
      obtain ⟨ad391, e391, hx391_0⟩ := Kd.at_string HR2.out x27_2 p391 q391
      cases e391
      replace hx391_0 := (HB.out.cell (World.block_lt_of_cell? w _ hx391_0)).trans hx391_0
      replace p391 := eq_true p391
      replace q391 := eq_true q391
      go_wp2_with (first | ((with_reducible refine gate_dst (N := 10) rfl ?_); ((refine gate_guard (by rfl) ?_; dsimp only)); refine R_arr Value.string (fun _ => rfl) _ 128 ?hg (N := 10) ?hd (List.replicate 2 (⟨#[]⟩ : ByteArray)) ?hr (Below.refl _ _) (Nat.le_refl _) (by decide) ?_; (case hd => rfl); (case hg => rfl); (case hr => exact gr_); intro v393 w29 ho30 hb hg_ hnew_; clear hg_ hnew_; (first | rw [← Ny392.out] at ho30 | (simp only [Int.reduceToNat] at ho30; rw [← Ny392.out] at ho30)); have HO394 := Aside0.mk (Kd.R_lower ho30 (below_size bl_)); replace HB := Aside0.mk (below_step bl_ hb); clear hb ho30; have qa14 : ((0 : Int) < (2 : Int)) = True := eq_true (by have e_ : y392.length = 2 := ae_; have h_ : (0 : Int) < ((y392.length : Int) : Int) := ae_; omega); have p14 : 0 ≤ (0 : Int) := (by omega); have q14 : (0 : Int) < ((y392.length : Int) : Int) := ae_; have qi14 : (0 < y392.length) = True := eq_true (by omega); obtain ⟨go14, co14, eo14, gb14, gl14, cl14, HG14⟩ := Kd.R_form HO394.out (by omega); (first | cases eo14 | (injection eo14 with ea_ en_ ec_; (first | subst ea_ | (injection ea_ with ea_; subst ea_)); subst ec_; clear en_)); have GB14 := Aside0.mk gb14; have GG14 := Aside0.mk HG14; clear gb14 gl14 HG14; obtain ⟨hx14_0, hf14_0⟩ := Kd.R_celln (⟨#[]⟩ : ByteArray) HO394.out (0 : Int) p14 q14; (rw [show ((0 : Int)).toNat = 0 from rfl] at hx14_0); (rw [show ((0 : Int)).toNat = 0 from rfl] at hf14_0); replace p14 := eq_true p14; replace q14 := eq_true q14; have HP31 := R_whole (ys := [x0_2, rdOf ByteArray.empty l2 x27_2]) HO394.out (by have e_ : y392.length = 2 := ae_; have e2_ := (Kd.R_reads' HO394.out).1; first | (rw [e_]; rfl) | (simp only [List.length_cons, List.length_nil]; omega))) | ((with_reducible refine gate_store (t := 128) (p := 10) rfl ?_); refine store_event (t := 128) (p := 10) (v := ?vo_w32) (w1 := (w29.setCells go14 0 (encs Value.string [x0_2, rdOf ByteArray.empty l2 x27_2]))) ?hg ?ho ?hn ?hr ?_; (case ho => rfl); (case hg => rfl); (case hn => rfl); (case hr => exact whole_run (ys := [x0_2, rdOf ByteArray.empty l2 x27_2]) rfl rfl rfl (by kernel_rfl) HO394.out (by have e_ : y392.length = 2 := ae_; have e2_ := (Kd.R_reads' HO394.out).1; first | (rw [e_]; rfl) | (simp only [List.length_cons, List.length_nil]; omega))); intro w32 hw; have hg : w29.grownBy w32 (some go14) := (by rw [hw]; exact HP31.2); have hp_ : Kd.R Kd.string 128 w32 w.heap.size (fun _ => True) (.slice (some ⟨go14, 0, none⟩) y392.length co14) y395 := (by rw [hw, Ny395.out]; exact HP31.1); clear HP31; replace HB := Aside0.mk ((Below.grown HB.out hg (below_size HB.out) (fun k_ e_ => (Option.some.inj e_) ▸ GB14.out) : Below w.heap.size w w32)); replace HO394 := Aside0.mk (hp_); clear hg hw hp_; have qa27 : ((0 : Int) < (2 : Int)) = True := eq_true (by have e_ : y392.length = 2 := ae_; have h_ : (0 : Int) < ((y392.length : Int) : Int) := ae_; omega); have p27 : 0 ≤ (0 : Int) := (by omega); have q27 : (0 : Int) < ((y392.length : Int) : Int) := ae_; have qi27 : (0 < y392.length) = True := eq_true (by omega); obtain ⟨hx27_0, hf27_0⟩ := Kd.R_celln (⟨#[]⟩ : ByteArray) HO394.out (0 : Int) p27 q27; (rw [show ((0 : Int)).toNat = 0 from rfl] at hx27_0); (rw [show ((0 : Int)).toNat = 0 from rfl] at hf27_0); replace p27 := eq_true p27; replace q27 := eq_true q27) | ((with_reducible refine gate_dst (N := 40) rfl ?_); ((refine gate_guard (by rfl) ?_; dsimp only)); refine aslice_event (P := Tryz.prog) rfl (N := 40) rfl 128 9 2 _ _ rfl rfl Tryz.underlying128 (by go_simp) ?_) | ((with_reducible refine gate_callee (f := 45) rfl ?_); refine goesL_ (some 41) rfl rfl Tryz.func45 (by kernel_rfl) rfl #[.int .i64 4, .slice (some ⟨go14, 0, none⟩) y395.length 2] rfl (by (simp only [List.map_toArray, List.map_cons, List.map_nil]); first | done | (rw [show y395.length = 2 from (by have e_ : y392.length = 2 := (by first | rfl | exact ae_); have e2_ := (Kd.R_reads' HO394.out).1; omega)] <;> rfl) | rfl | (simp only [List.length_drop, List.length_take]; rfl)) ?_; (with_reducible refine (J9.calls k2 4 _ _ y395 t398 _ ?side1 ?side2 ?side3 A28.out).mono ?_); (case side1 => repeat (first | exact (Kd.R_reads' HO394.out).2.2 | (with_reducible refine Kd.C_alloc ?_ _) | (with_reducible refine Kd.C_drewN ?_ _) | (with_reducible refine Kd.C_drew ?_))); (case side2 => rw [show y395.length = 2 from (by have e_ : y392.length = 2 := (by first | rfl | exact ae_); have e2_ := (Kd.R_reads' HO394.out).1; omega)]; first | done | exact Nat.le_refl _ | exact Nat.le_of_eq (by have e_ : y392.length = 2 := (by first | rfl | exact ae_); have e2_ := (Kd.R_reads' HO394.out).1; omega)); (case side3 => repeat (first | exact (Kd.C_below HRG.out HB.out) | (with_reducible refine Kd.C_alloc ?_ _) | (with_reducible refine Kd.C_drewN ?_ _) | (with_reducible refine Kd.C_drew ?_))); rintro e w34 ⟨rfl, hb⟩; refine ⟨_, rfl, ?_⟩; replace HB := Aside0.mk (below_step bl_ hb); replace HO394 := Aside0.mk (Kd.R_below (mv_ HO394.out) hb); clear hb))
      go_roundg k2
      case measure => have := HJ3.out; have := HK2.out; omega
      case rel => exact ⟨(t398), (x1_2 / 2), (wrap64 (x27_2 + 1)), vq_, vq_, vq_, H', ⟨by have := HJ3.out; have := HK2.out; omega⟩, ⟨bl_⟩⟩
     rw [if_neg c9] at H
     have c9b0 : decide (x27_2 < (l2.length : Int)) = false := decide_eq_false c9
     clear c9
     simp only [Option.some.injEq, Prod.mk.injEq] at H
     obtain ⟨rfl, rfl⟩ := H
     go_wp2
     go_ret2
     exact ⟨er_, bl_⟩

/-! ### U2 = key_Verify: function 28 (walked by hand) -/
def U2.f (k : Nat) (a0 a1 a2 : ByteArray) : Option Bool :=
  (J7.f k a2).bind fun t => if t.2.2.2 = true then ((J9.f k 6 [a1]).bind fun d => (Jv.f k d t.2.1).bind fun p => (J1.f k p.1 t.1 t.2.2.1).bind fun q => (Uy.f k (t.2.2.1.length : Int) q.1).bind fun x => some (x.toList == a0.toList)) else some false
set_option maxHeartbeats 8000000 in
set_option maxRecDepth 100000 in
theorem U2.calls (k : Nat) (a0 a1 a2 : ByteArray) (r : Bool) (w : World) (hrG : Kd.C (Kd.int .u32) w (some ⟨0, 0, none⟩) keysL.length keysL) (h : U2.f k a0 a1 a2 = some r) :
    Calls Tryz.prog 28 #[.string a0, .string a1, .string a2] w fun e w' => e = .returned (.bool r) ∧ Below w.heap.size w w' := by
  have HRG := Aside0.mk hrG
  have HB := Aside0.mk (Below.refl w.heap.size w)
  clear hrG
  unfold U2.f at h
  replace h := Option.bind_eq_some_iff.mp h
  obtain ⟨⟨leaf, vs, ps, ok⟩, hP, h⟩ := h
  have A1 := Aside0.mk hP
  clear hP
  cases ok with
  | false =>
    obtain rfl := Option.some.inj (show some false = some r from h)
    clear h
    go_enter Tryz.func28, Tryz.ntmps28
    go_wp2_with (first | (go_at_call 56; (with_reducible refine (J7.calls k a2 leaf vs ps false _ A1.out).mono ?_); rintro e w1 ⟨P1, P2, q1, q2, rfl, hc1, hq1, hc2, hq2, hb⟩; have C1 := Aside0.mk hc1; have Q1 := Aside0.mk hq1; have C2 := Aside0.mk hc2; have Q2 := Aside0.mk hq2; have n0_ := Aside0.mk (below_step (by repeat (first | (with_reducible first | exact HB.out | apply lA_ | apply lN_ | apply lD_) | exact HB.out)) hb); clear HB; have HB := n0_; clear n0_; clear hb hc1 hq1 hc2 hq2))
    go_ret
    exact ⟨rfl, HB.out⟩
  | true =>
    replace h := Option.bind_eq_some_iff.mp (show (J9.f k 6 [a1]).bind (fun d => (Jv.f k d vs).bind fun p => (J1.f k p.1 leaf ps).bind fun q => (Uy.f k (ps.length : Int) q.1).bind fun x => some (x.toList == a0.toList)) = some r from h)
    obtain ⟨d, hD, h⟩ := h
    replace h := Option.bind_eq_some_iff.mp h
    obtain ⟨⟨p, po⟩, hR, h⟩ := h
    replace h := Option.bind_eq_some_iff.mp h
    obtain ⟨⟨q, qo⟩, hF, h⟩ := h
    replace h := Option.bind_eq_some_iff.mp h
    obtain ⟨x, hN, h⟩ := h
    obtain rfl := Option.some.inj h
    obtain ⟨ym, hym⟩ : ∃ y_ : List ByteArray, y_ = [a1] := ⟨_, rfl⟩
    rw [← hym] at hD
    have Nym := Aside0.mk hym
    have A2 := Aside0.mk hD
    have A3 := Aside0.mk hR
    have A4 := Aside0.mk hF
    have A5 := Aside0.mk hN
    clear h hD hR hF hN hym
    go_enter Tryz.func28, Tryz.ntmps28
    go_wp2_with (first | (go_at_call 56; (with_reducible refine (J7.calls k a2 leaf vs ps true _ A1.out).mono ?_); rintro e w1 ⟨P1, P2, q1, q2, rfl, hc1, hq1, hc2, hq2, hb⟩; have C1 := Aside0.mk hc1; have Q1 := Aside0.mk hq1; have C2 := Aside0.mk hc2; have Q2 := Aside0.mk hq2; have n0_ := Aside0.mk (below_step (by repeat (first | (with_reducible first | exact HB.out | apply lA_ | apply lN_ | apply lD_) | exact HB.out)) hb); clear HB; have HB := n0_; clear n0_; clear hb hc1 hq1 hc2 hq2) | ((with_reducible refine gate_dst (N := 26) rfl ?_); refine Kd.R_lit Kd.string _ 9 ?hg (N := 26) ?hd (xs := ([a1] : List ByteArray)) (inner := [.string a1]) (ok := fun _ => True) (okp := fun _ => True) ?hr ?hp (fun _ hk => hk) trivial (Below.refl _ _) (Nat.le_refl _) (by simp) ?_; (case hd => rfl); (case hg => rfl); (case hr => first | (go_simp; done) | (go_simp; rfl)); (case hp => exact (Reps.one (show Kd.M Kd.string _ _ _ a1 [.string a1] from rfl) (Reps.none _ _))); intro v2 w2 ho hb hg_ hnew_; clear hg_ hnew_; (first | rw [← Nym.out] at ho | (simp only [Int.reduceToNat] at ho; rw [← Nym.out] at ho)); have m_ := Aside0.mk (Kd.C_below (by repeat (first | exact C1.out | (with_reducible refine Kd.C_alloc ?_ _) | (with_reducible refine Kd.C_drewN ?_ _) | (with_reducible refine Kd.C_drew ?_))) hb); clear C1; have C1 := m_; clear m_; have m_ := Aside0.mk (Kd.C_below (by repeat (first | exact C2.out | (with_reducible refine Kd.C_alloc ?_ _) | (with_reducible refine Kd.C_drewN ?_ _) | (with_reducible refine Kd.C_drew ?_))) hb); clear C2; have C2 := m_; clear m_; have HO := Aside0.mk ho; have n0_ := Aside0.mk (below_step (by repeat (first | (with_reducible first | exact HB.out | apply lA_ | apply lN_ | apply lD_) | exact HB.out)) hb); clear HB; have HB := n0_; clear n0_; clear hb ho; obtain ⟨Ao, co, eo⟩ := Kd.R_slice HO.out; subst eo) | (go_at_call 45; (with_reducible refine (J9.calls k 6 _ _ ym d _ ?side1 ?side2 ?side3 A2.out).mono ?_); (case side1 => repeat (first | exact (Kd.R_reads' HO.out).2.2 | (with_reducible refine Kd.C_alloc ?_ _) | (with_reducible refine Kd.C_drewN ?_ _) | (with_reducible refine Kd.C_drew ?_))); (case side2 => exact (Kd.R_reads' HO.out).2.1); (case side3 => repeat (first | exact (Kd.C_below HRG.out HB.out) | (with_reducible refine Kd.C_alloc ?_ _) | (with_reducible refine Kd.C_drewN ?_ _) | (with_reducible refine Kd.C_drew ?_))); rintro e w3 ⟨rfl, hb⟩; have m_ := Aside0.mk (Kd.C_below (by repeat (first | exact C1.out | (with_reducible refine Kd.C_alloc ?_ _) | (with_reducible refine Kd.C_drewN ?_ _) | (with_reducible refine Kd.C_drew ?_))) hb); clear C1; have C1 := m_; clear m_; have m_ := Aside0.mk (Kd.C_below (by repeat (first | exact C2.out | (with_reducible refine Kd.C_alloc ?_ _) | (with_reducible refine Kd.C_drewN ?_ _) | (with_reducible refine Kd.C_drew ?_))) hb); clear C2; have C2 := m_; clear m_; have n0_ := Aside0.mk (below_step (by repeat (first | (with_reducible first | exact HB.out | apply lA_ | apply lN_ | apply lD_) | exact HB.out)) hb); clear HB; have HB := n0_; clear n0_; clear hb) | (go_at_call 57; (with_reducible refine (Jv.calls k d _ _ vs p po _ ?side1 ?side2 ?side3 A3.out).mono ?_); (case side1 => repeat (first | exact C1.out | (with_reducible refine Kd.C_alloc ?_ _) | (with_reducible refine Kd.C_drewN ?_ _) | (with_reducible refine Kd.C_drew ?_))); (case side2 => exact Q1.out); (case side3 => repeat (first | exact (Kd.C_below HRG.out HB.out) | (with_reducible refine Kd.C_alloc ?_ _) | (with_reducible refine Kd.C_drewN ?_ _) | (with_reducible refine Kd.C_drew ?_))); rintro e w4 ⟨rfl, hb⟩; have m_ := Aside0.mk (Kd.C_below (by repeat (first | exact C2.out | (with_reducible refine Kd.C_alloc ?_ _) | (with_reducible refine Kd.C_drewN ?_ _) | (with_reducible refine Kd.C_drew ?_))) hb); clear C2; have C2 := m_; clear m_; have n0_ := Aside0.mk (below_step (by repeat (first | (with_reducible first | exact HB.out | apply lA_ | apply lN_ | apply lD_) | exact HB.out)) hb); clear HB; have HB := n0_; clear n0_; clear hb) | (go_at_call 58; (with_reducible refine (J1.calls k p leaf _ _ ps q qo _ ?side1 ?side2 ?side3 A4.out).mono ?_); (case side1 => repeat (first | exact C2.out | (with_reducible refine Kd.C_alloc ?_ _) | (with_reducible refine Kd.C_drewN ?_ _) | (with_reducible refine Kd.C_drew ?_))); (case side2 => exact Q2.out); (case side3 => repeat (first | exact (Kd.C_below HRG.out HB.out) | (with_reducible refine Kd.C_alloc ?_ _) | (with_reducible refine Kd.C_drewN ?_ _) | (with_reducible refine Kd.C_drew ?_))); rintro e w5 ⟨rfl, hb⟩; have n0_ := Aside0.mk (below_step (by repeat (first | (with_reducible first | exact HB.out | apply lA_ | apply lN_ | apply lD_) | exact HB.out)) hb); clear HB; have HB := n0_; clear n0_; clear hb) | (go_at_call 49; (with_reducible refine (Uy.calls k (ps.length : Int) q x _ ?side1 A5.out).mono ?_); (case side1 => repeat (first | exact (Kd.C_below HRG.out HB.out) | (with_reducible refine Kd.C_alloc ?_ _) | (with_reducible refine Kd.C_drewN ?_ _) | (with_reducible refine Kd.C_drew ?_))); rintro e w6 ⟨rfl, hb⟩; have n0_ := Aside0.mk (below_step (by repeat (first | (with_reducible first | exact HB.out | apply lA_ | apply lN_ | apply lD_) | exact HB.out)) hb); clear HB; have HB := n0_; clear n0_; clear hb))
    go_ret
    exact ⟨rfl, HB.out⟩

/-! ### Ui = event_Check: function 11 -/
def Ui.j0 : Nat → ByteArray → Bool → Int → ByteArray → List ByteArray → ByteArray → ByteArray → Option (Int)
 | 0, _, _, _, _, _, _, _ => none
 | k + 1, x3, x10, x400000, x400001, x400002, x400003, x400004 => if x10 = true then (some 2) else ((U2.f k x400001 x3 x400004).bind fun t403 => (if t403 = true then (some 0) else (some 4)))
def Ui.f (k : Nat) (a0_0 : Int) (a0_1 : ByteArray) (l0_2 : List ByteArray) (a0_3 : ByteArray) (a0_4 : ByteArray) : Option (Int) := (Us.f k a0_0 a0_1 l0_2 a0_3 a0_4).bind fun bt400 => (if bt400.2 = 0 then ((Jj.f k a0_0 a0_1 l0_2 a0_3 a0_4).bind fun t402 => (Ui.j0 k bt400.1 (!t402) a0_0 a0_1 l0_2 a0_3 a0_4)) else (Ui.j0 k bt400.1 true a0_0 a0_1 l0_2 a0_3 a0_4))
set_option maxHeartbeats 64000000 in
set_option maxRecDepth 100000 in
theorem Ui.calls (k : Nat) (a0_0 : Int) (a0_1 : ByteArray) (A0_2 : Option Addr) (c0_2 : Nat) (l0_2 : List ByteArray) (a0_3 : ByteArray) (a0_4 : ByteArray) (r : Int) (w : World) (hr0_2 : Kd.C Kd.string w A0_2 l0_2.length l0_2) (hc0_2 : l0_2.length ≤ c0_2) (hrG : Kd.C (Kd.int .u32) w (some ⟨0, 0, none⟩) keysL.length keysL) (h : Ui.f k a0_0 a0_1 l0_2 a0_3 a0_4 = some r) :
 Calls Tryz.prog 11 #[.agg #[.int .i64 a0_0, .string a0_1, .slice A0_2 l0_2.length c0_2, .string a0_3, .string a0_4]] w fun e w' => e = .returned (.int .i64 r) ∧ Below w.heap.size w w' := by
 have hu24 := Tryz.underlying24
 have HR0_2 := Aside0.mk hr0_2
 have HC0_2 := Aside0.mk hc0_2
 clear hr0_2 hc0_2
 have HRG := Aside0.mk hrG
 clear hrG
 have HB := Aside0.mk (Below.refl w.heap.size w)
 have H : ((Us.f k a0_0 a0_1 l0_2 a0_3 a0_4).bind fun bt400 => (if bt400.2 = 0 then ((Jj.f k a0_0 a0_1 l0_2 a0_3 a0_4).bind fun t402 => (Ui.j0 k bt400.1 (!t402) a0_0 a0_1 l0_2 a0_3 a0_4)) else (Ui.j0 k bt400.1 true a0_0 a0_1 l0_2 a0_3 a0_4))) = some r := h
 clear h
 replace H := ob_ H
 obtain ⟨⟨t400, t401⟩, A20, H⟩ := H
 replace H : (if t401 = 0 then ((Jj.f k a0_0 a0_1 l0_2 a0_3 a0_4).bind fun t402 => (Ui.j0 k t400 (!t402) a0_0 a0_1 l0_2 a0_3 a0_4)) else (Ui.j0 k t400 true a0_0 a0_1 l0_2 a0_3 a0_4)) = some r := H
 have A2 := Aside0.mk A20
 clear A20
 have HC3 := Aside0.mk H
 clear H
 go_enter Tryz.func11, Tryz.ntmps11
 go_upto_region 2 with (first | ((with_reducible refine gate_dst (N := 1) rfl ?_); refine box_event ?hg (N := 1) ?hd (cs := #[.int .i64 a0_0, .string a0_1, .slice A0_2 l0_2.length c0_2, .string a0_3, .string a0_4]) (t := 24) ?hr ?_; (case hd => rfl); (case hg => rfl); (case hr => exact gr_); intro gb399 hg w4 hbox hb; have GE399 := Aside0.mk ((by rw [hg]; exact (below_size bl_) : w.heap.size ≤ gb399)); have GW399 := Aside0.mk ((by rw [hg]; exact (below_size bl_) : w.heap.size ≤ gb399)); have BK399 := Aside0.mk (hbox); replace HB := Aside0.mk (below_step bl_ hb); clear hb hbox hg; obtain ⟨hcz5_0, hcz5_1, hcz5_2, hcz5_3, hcz5_4⟩ := c5_ BK399.out; obtain ⟨hfz5_0, hfz5_1, hfz5_2, hfz5_3, hfz5_4⟩ := f5_ BK399.out) | ((with_reducible refine gate_callee (f := 24) rfl ?_); refine gL_ 7 Tryz.func24 #[.agg #[.int .i64 a0_0, .string a0_1, .slice A0_2 l0_2.length c0_2, .string a0_3, .string a0_4]] ?_; (with_reducible refine (Us.calls k a0_0 a0_1 _ _ l0_2 a0_3 a0_4 t400 t401 _ ?side1 ?side2 A2.out).mono ?_); (case side1 => repeat (first | exact (Kd.C_below HR0_2.out HB.out) | (with_reducible refine Kd.C_alloc ?_ _) | (with_reducible refine Kd.C_drewN ?_ _) | (with_reducible refine Kd.C_drew ?_))); (case side2 => exact HC0_2.out); rintro e w6 ⟨rfl, hb⟩; refine ⟨_, rfl, ?_⟩; replace HB := Aside0.mk (below_step (bs_ GE399.out) hb); replace BK399 := Aside0.mk (blk_below (g := gb399) (o := .cells #[.int .i64 a0_0, .string a0_1, .slice A0_2 l0_2.length c0_2, .string a0_3, .string a0_4] 24 (0, 0)) (mb_ BK399.out) hb); clear hb))
 go_cut [10] (fun v10 wc => ∃ (kq : Nat) (x10_2 : Bool), v10 = .bool x10_2 ∧ Aside0 (Ui.j0 kq t400 x10_2 a0_0 a0_1 l0_2 a0_3 a0_4 = some r) ∧ Aside0 (kq ≤ k) ∧ Aside0 (wc.heap[gb399]? = some (.cells #[.int .i64 a0_0, .string a0_1, (.slice A0_2 l0_2.length c0_2), .string a0_3, .string a0_4] 24 (0, 0))) ∧ Aside0 (Below w.heap.size w wc))
 case first =>
  have H := HC3.out
  clear HC3
  by_cases c7 : t401 = 0
  ·rw [if_pos c7] at H
   have c7b0 : (t401 == 0) = true := beq_iff_eq.mpr c7
   have c7b1 : (t401 != 0) = false := bne_eq_false_iff_eq.mpr c7
   clear c7
   (first | rw [c7b0] | (simp only [i64_w, i32_w]; rw [c7b0]) | skip)
   revert H; refine oa_ fun t402 A8 H => ?_
   have H' := Aside0.mk H
   clear H
   obtain ⟨hcz9_0, hcz9_1, hcz9_2, hcz9_3, hcz9_4⟩ := c5_ BK399.out
   obtain ⟨hfz9_0, hfz9_1, hfz9_2, hfz9_3, hfz9_4⟩ := f5_ BK399.out
   go_wp2_with (first | (go_at_call 27; (with_reducible refine (Jj.calls k a0_0 a0_1 _ _ l0_2 a0_3 a0_4 t402 _ ?side1 ?side2 A8.out).mono ?_); (case side1 => repeat (first | exact (Kd.C_below HR0_2.out HB.out) | (with_reducible refine Kd.C_alloc ?_ _) | (with_reducible refine Kd.C_drewN ?_ _) | (with_reducible refine Kd.C_drew ?_))); (case side2 => exact HC0_2.out); rintro e w10 ⟨rfl, hb⟩; replace HB := Aside0.mk (below_step (bs_ GE399.out) hb); replace BK399 := Aside0.mk (blk_below (g := gb399) (o := .cells #[.int .i64 a0_0, .string a0_1, .slice A0_2 l0_2.length c0_2, .string a0_3, .string a0_4] 24 (0, 0)) (mb_ BK399.out) hb); clear hb))
   go_meet
   case rel => exact ⟨_, (!t402), vq_, H', ⟨by first | omega | exact Nat.le_refl _⟩, ⟨mb_ BK399.out⟩, ⟨bs_ GE399.out⟩⟩
  rw [if_neg c7] at H
  have c7b0 : (t401 == 0) = false := beq_eq_false_iff_ne.mpr c7
  have c7b1 : (t401 != 0) = true := bne_iff_ne.mpr c7
  (first | rw [c7b0] | (simp only [i64_w, i32_w]; rw [c7b0]) | skip)
  have H' := Aside0.mk H
  clear H
  go_wp2
  go_meet
  case rel => exact ⟨_, (true), vq_, H', ⟨by first | omega | exact Nat.le_refl _⟩, ⟨mb_ BK399.out⟩, ⟨bs_ GE399.out⟩⟩
 case rest =>
  clear HC3
  clear hcz5_0 hcz5_1 hcz5_2 hcz5_3 hcz5_4 hfz5_0 hfz5_1 hfz5_2 hfz5_3 hfz5_4
  obtain ⟨kq, x10_2, rfl, HA, HJ2, BK399, HB⟩ := hcut
  cases kq with
  | zero => exact absurd HA.out (by simp [Ui.j0])
  | succ kj2 =>
   have H := HA.out
   clear HA
   simp only [Ui.j0] at H
   by_cases c11 : x10_2 = true
   ·subst c11
    have H1 : (some 2) = some r := by rw [if_pos rfl] at H; exact H
    clear H
    have H := H1
    clear H1
    obtain rfl := Option.some.inj H
    go_wp2
    go_ret
    exact ⟨er_, bs_ GE399.out⟩
   replace c11 := Bool.eq_false_iff.mpr c11
   subst c11
   have H1 : ((U2.f kj2 a0_1 t400 a0_4).bind fun t403 => (if t403 = true then (some 0) else (some 4))) = some r := by rw [if_neg (show ¬ (false = true) by decide)] at H; exact H
   clear H
   have H := H1
   clear H1
   revert H; refine oa_ fun t403 A12 H => ?_
   by_cases c13 : t403 = true
   ·subst c13
    have H1 : (some 0) = some r := by rw [if_pos rfl] at H; exact H
    clear H
    have H := H1
    clear H1
    obtain rfl := Option.some.inj H
    obtain ⟨hcz14_0, hcz14_1, hcz14_2, hcz14_3, hcz14_4⟩ := c5_ BK399.out
    obtain ⟨hfz14_0, hfz14_1, hfz14_2, hfz14_3, hfz14_4⟩ := f5_ BK399.out
    go_wp2_with (first | ((with_reducible refine gate_callee (f := 28) rfl ?_); refine gL_ 24 Tryz.func28 #[.string a0_1, .string t400, .string a0_4] ?_; (with_reducible refine (U2.calls kj2 a0_1 t400 a0_4 true _ ?side1 A12.out).mono ?_); (case side1 => repeat (first | exact (Kd.C_below HRG.out HB.out) | (with_reducible refine Kd.C_alloc ?_ _) | (with_reducible refine Kd.C_drewN ?_ _) | (with_reducible refine Kd.C_drew ?_))); rintro e w15 ⟨rfl, hb⟩; refine ⟨_, rfl, ?_⟩; replace HB := Aside0.mk (below_step (bs_ GE399.out) hb); replace BK399 := Aside0.mk (blk_below (g := gb399) (o := .cells #[.int .i64 a0_0, .string a0_1, .slice A0_2 l0_2.length c0_2, .string a0_3, .string a0_4] 24 (0, 0)) (mb_ BK399.out) hb); clear hb))
    go_ret
    exact ⟨er_, bs_ GE399.out⟩
   replace c13 := Bool.eq_false_iff.mpr c13
   subst c13
   have H1 : (some 4) = some r := by rw [if_neg (show ¬ (false = true) by decide)] at H; exact H
   clear H
   have H := H1
   clear H1
   obtain rfl := Option.some.inj H
   obtain ⟨hcz16_0, hcz16_1, hcz16_2, hcz16_3, hcz16_4⟩ := c5_ BK399.out
   obtain ⟨hfz16_0, hfz16_1, hfz16_2, hfz16_3, hfz16_4⟩ := f5_ BK399.out
   go_wp2_with (first | ((with_reducible refine gate_callee (f := 28) rfl ?_); refine gL_ 24 Tryz.func28 #[.string a0_1, .string t400, .string a0_4] ?_; (with_reducible refine (U2.calls kj2 a0_1 t400 a0_4 false _ ?side1 A12.out).mono ?_); (case side1 => repeat (first | exact (Kd.C_below HRG.out HB.out) | (with_reducible refine Kd.C_alloc ?_ _) | (with_reducible refine Kd.C_drewN ?_ _) | (with_reducible refine Kd.C_drew ?_))); rintro e w17 ⟨rfl, hb⟩; refine ⟨_, rfl, ?_⟩; replace HB := Aside0.mk (below_step (bs_ GE399.out) hb); replace BK399 := Aside0.mk (blk_below (g := gb399) (o := .cells #[.int .i64 a0_0, .string a0_1, .slice A0_2 l0_2.length c0_2, .string a0_3, .string a0_4] 24 (0, 0)) (mb_ BK399.out) hb); clear hb))
   go_ret
   exact ⟨er_, bs_ GE399.out⟩

/-! ### Uj = palaverref05_Named: function 35 -/
def Uj.f (k : Nat) (a0 : Int) (a1 : ByteArray) : Option (ByteArray) := (Jc.f k a0 1).bind fun bt404 => ((Jo.f k 5 (([bt404.1, a1] : List ByteArray))).bind fun t409 => (some t409))
set_option maxHeartbeats 64000000 in
set_option maxRecDepth 100000 in
theorem Uj.calls (k : Nat) (a0 : Int) (a1 : ByteArray) (r : ByteArray) (w : World) (h : Uj.f k a0 a1 = some r) :
 Calls Tryz.prog 35 #[.int .i64 a0, .string a1] w fun e w' => e = .returned (.string r) ∧ Below w.heap.size w w' := by
 have HB := Aside0.mk (Below.refl w.heap.size w)
 have H : ((Jc.f k a0 1).bind fun bt404 => ((Jo.f k 5 (([bt404.1, a1] : List ByteArray))).bind fun t409 => (some t409))) = some r := h
 clear h
 replace H := ob_ H
 obtain ⟨⟨t404, t405⟩, A30, H⟩ := H
 replace H : ((Jo.f k 5 (([t404, a1] : List ByteArray))).bind fun t409 => (some t409)) = some r := H
 have A3 := Aside0.mk A30
 clear A30
 generalize e_ : (([t404, a1] : List ByteArray) : List ByteArray) = y406 at H
 have Ny406 := Aside0.mk e_.symm
 clear e_
 revert H; refine oa_ fun t409 A4 H => ?_
 obtain rfl := Option.some.inj H
 go_enter Tryz.func35, Tryz.ntmps35
 go_wp2_with (first | ((with_reducible refine gate_callee (f := 33) rfl ?_); refine gL_ 9 Tryz.func33 #[.int .i64 a0, .int .i64 1] ?_; (with_reducible refine (Jc.calls k a0 1 t404 t405 _ A3.out).mono ?_); rintro e w5 ⟨rfl, hb⟩; refine ⟨_, rfl, ?_⟩; replace HB := Aside0.mk (below_step bl_ hb); clear hb) | ((with_reducible refine gate_dst (N := 14) rfl ?_); refine Kd.R_lit Kd.string _ 9 ?hg (N := 14) ?hd (xs := ([t404, a1] : List ByteArray)) (inner := [.string t404, .string a1]) (ok := fun _ => True) (okp := fun _ => True) ?hr ?hp (fun _ hk => hk) trivial (Below.refl _ _) (Nat.le_refl _) (by simp) ?_; (case hd => rfl); (case hg => rfl); (case hr => exact gr_); (case hp => exact (Reps.one (show Kd.M Kd.string _ _ _ t404 [.string t404] from rfl) (Reps.one (show Kd.M Kd.string _ _ _ a1 [.string a1] from rfl) (Reps.none _ _)))); intro v407 w6 ho7 hb hg_ hnew_; clear hg_ hnew_; (first | rw [← Ny406.out] at ho7 | (simp only [Int.reduceToNat] at ho7; rw [← Ny406.out] at ho7)); have HO408 := Aside0.mk (Kd.R_lower ho7 (below_size bl_)); replace HB := Aside0.mk (below_step bl_ hb); clear hb ho7; obtain ⟨Ao8, co8, eo8⟩ := Kd.R_slice HO408.out; subst eo8) | ((with_reducible refine gate_callee (f := 31) rfl ?_); refine gL_ 15 Tryz.func31 #[.int .i64 5, .slice Ao8 y406.length co8] ?_; (with_reducible refine (Jo.calls k 5 _ _ y406 t409 _ ?side1 ?side2 A4.out).mono ?_); (case side1 => repeat (first | exact (Kd.R_reads' HO408.out).2.2 | (with_reducible refine Kd.C_alloc ?_ _) | (with_reducible refine Kd.C_drewN ?_ _) | (with_reducible refine Kd.C_drew ?_))); (case side2 => exact (Kd.R_reads' HO408.out).2.1); rintro e w9 ⟨rfl, hb⟩; refine ⟨_, rfl, ?_⟩; replace HB := Aside0.mk (below_step bl_ hb); replace HO408 := Aside0.mk (Kd.R_below (mv_ HO408.out) hb); clear hb))
 go_ret
 exact ⟨er_, bl_⟩

/-! ### Jg = palaverref04_Levels: function 63 -/
mutual
def Jg.l0 : Nat → List ByteArray → List (List ByteArray) → Option ((List (List ByteArray)))
 | 0, _, _ => none
 | k + 1, x0, x3 => if (x0.length : Int) > 1 then (Jg.l1 k x0 x3 ([] : List ByteArray) 0) else (some x3)
def Jg.l1 : Nat → List ByteArray → List (List ByteArray) → List ByteArray → Int → Option ((List (List ByteArray)))
 | 0, _, _, _, _ => none
 | k + 1, x0, x3, x4, x5 => if (wrap64 (x5 + 1)) < (x0.length : Int) then (if 0 ≤ x5 then (if x5 < (x0.length : Int) then (if 0 ≤ (wrap64 (x5 + 1)) then ((Jo.f k 4 (([rdOf ByteArray.empty x0 x5, rdOf ByteArray.empty x0 (wrap64 (x5 + 1))] : List ByteArray))).bind fun t418 => (if x4.length < 8796093022208 then (Jg.l1 k x0 x3 (x4 ++ [t418]) (wrap64 (x5 + 2))) else (none))) else (none)) else (none)) else (none)) else (if x3.length < 5864062014805 then (Jg.l0 k x4 (x3 ++ [x4])) else (none))
end
def Jg.f (k : Nat) (l0 : List ByteArray) : Option ((List (List ByteArray))) := Jg.l0 k l0 (([l0] : List (List ByteArray)))
def Jg.T7 : Bool × List (List Nat × List Nat) := (true, [([], []), ([], []), ([], []), ([1, 2], [1, 2]), ([3], [3]), ([], []), ([], []), ([6], [6]), ([5, 7], [5, 7]), ([8], [8]), ([4, 9], [4, 9]), ([10], [10]), ([11], [11]), ([0, 12, 11], [0, 12]), ([13, 13, 0, 1, 2, 3, 4, 5, 6, 7, 8, 9, 10, 11, 12, 13], [0, 13])])
def Jg.B7 : List Nat := [0, 0, 0, 6, 14, 0, 0, 64, 224, 480, 1022, 2046, 4094, 8191, 16383]
theorem Jg.tab7 : rtab .any (opsOf Tryz.f63 7) = Jg.T7 := by kernel_rfl
theorem Jg.bits7 : waitsOk Jg.T7.2 Jg.B7 = true := by kernel_rfl
set_option maxHeartbeats 64000000 in
set_option maxRecDepth 100000 in
theorem Jg.calls (k : Nat) (P0_ : Nat → Prop) (A0 : Option Addr) (c0 : Nat) (l0 : List ByteArray) (r : List (List ByteArray)) (w : World) (hs0 : Kd.V Kd.string 9 w w.heap.size (fun k_ => P0_ k_) (.slice A0 l0.length c0) l0) (h : Jg.f k l0 = some r) :
 Calls Tryz.prog 63 #[.slice A0 l0.length c0] w fun e w' => ∃ v0_ : Value, e = .returned (v0_) ∧ Kd.N (Kd.slice 9 Kd.string) 22 w' w.heap.size (fun k_ => (P0_ k_ ∨ w.heap.size ≤ k_)) v0_ r ∧ Below w.heap.size w w' := by
 have HO0 := Aside0.mk (show Kd.V Kd.string 9 w w.heap.size (fun k_ => (P0_ k_ ∨ w.heap.size ≤ k_)) (.slice A0 l0.length c0) l0 from Kd.V_mono hs0 (fun k_ hk => .inl hk))
 have HB := Aside0.mk (Below.refl w.heap.size w)
 have H : (Jg.l0 k l0 (([l0] : List (List ByteArray)))) = some r := h
 clear h
 generalize e_ : (([l0] : List (List ByteArray)) : List (List ByteArray)) = y410 at H
 have Ny410 := Aside0.mk e_.symm
 clear e_
 have H' := Aside0.mk H
 clear H
 go_enter Tryz.func63, Tryz.ntmps63
 go_wp2_with (first | ((with_reducible refine gate_dst (N := 7) rfl ?_); refine Kd.N_lit (Kd.slice 9 Kd.string) _ 22 ?hg (N' := 7) ?hd (xs := ([l0] : List (List ByteArray))) (inner := [.slice A0 l0.length c0]) (ok := (fun k_ => (P0_ k_ ∨ w.heap.size ≤ k_))) (okp := (fun k_ => (P0_ k_ ∨ w.heap.size ≤ k_))) ?hr ?hp (fun _ hk => hk) ((show ∀ k_, w.heap.size ≤ k_ → (fun k_ => (P0_ k_ ∨ w.heap.size ≤ k_)) k_ from fun k_ hk => (.inr (Nat.le_trans (below_size bl_) hk))) _ (Nat.le_refl _)) (Below.refl _ _) (Nat.le_refl _) (by simp) ?_; (case hd => rfl); (case hg => rfl); (case hr => exact gr_); (case hp => exact (Reps.one (show Kd.FK (Kd.slice 9 Kd.string) _ _ l0 [.slice A0 l0.length c0] from (Kd.FK_slice_mk (Kd.V_reads' (Kd.V_mono (ok' := (fun k_ => (P0_ k_ ∨ w.heap.size ≤ k_))) (HO0.out) (fun k_ hk => hk))).2.1 (Kd.V_F (Kd.V_mono (ok' := (fun k_ => (P0_ k_ ∨ w.heap.size ≤ k_))) (HO0.out) (fun k_ hk => hk))))) (Reps.none _ _))); intro v411 w2 ho3 hb hg_ hnew_; clear hg_ hnew_; (first | rw [← Ny410.out] at ho3 | (simp only [Int.reduceToNat] at ho3; rw [← Ny410.out] at ho3)); have HO412 := Aside0.mk (Kd.N_lower ho3 (below_size bl_)); replace HB := Aside0.mk (below_step bl_ hb); replace HO0 := Aside0.mk (Kd.V_elder' (by (with_reducible repeat (first | apply Kd.V_alloc | apply Kd.V_drewN | apply Kd.V_drew)); exact HO0.out) (Kd.N_base ho3) hb); clear hb ho3))
 go_loopg [0, 3] k (fun kq v0 v3 w' => ∃ (x0_1 : List ByteArray) (x3_1 : List (List ByteArray)), Aside0 (Jg.l0 kq x0_1 x3_1 = some r) ∧ Aside0 (kq ≤ k) ∧ Aside0 (Kd.V Kd.string 9 w' w.heap.size (fun k_ => (P0_ k_ ∨ w.heap.size ≤ k_) ∧ some k_ ≠ (v3 : Value).ownBlock) v0 x0_1) ∧ Aside0 (Kd.N (Kd.slice 9 Kd.string) 22 w' w.heap.size (fun k_ => (P0_ k_ ∨ w.heap.size ≤ k_)) v3 x3_1) ∧ Aside0 (Below w.heap.size w w'))
 case atStart => exact ⟨(l0), (y410), H', ⟨Nat.le_refl _⟩, ⟨by (with_reducible repeat (first | apply Kd.V_alloc | apply Kd.V_drewN | apply Kd.V_drew)); exact HO0.out⟩, ⟨by (with_reducible repeat (first | apply Kd.N_alloc | apply Kd.N_drewN | apply Kd.N_drew)); exact HO412.out⟩, ⟨bl_⟩⟩
 case round =>
  clear H'
  obtain ⟨x0_1, x3_1, HA, HK1, HO_0, HO_3, HB⟩ := hrel
  cases gk with
  | zero => exact absurd HA.out (by simp [Jg.l0])
  | succ k1 =>
   have H := HA.out
   clear HA
   simp only [Jg.l0] at H
   by_cases c4 : (x0_1.length : Int) > 1
   ·rw [if_pos c4] at H
    have c4b0 : decide (1 < (x0_1.length : Int)) = true := decide_eq_true c4
    have c4b1 : decide (1 < x0_1.length) = true := decide_eq_true (by omega)
    clear c4
    have H' := Aside0.mk H
    clear H
    obtain ⟨Ao5, co5, eo5⟩ := Kd.V_slice HO_0.out
    subst eo5
    go_wp2
    go_loopg [4, 5] k1 (fun kq v4 v5 w' => ∃ (x4_2 : List ByteArray) (x5_2 : Int), v5 = .int .i64 x5_2 ∧ Aside0 (Jg.l1 kq x0_1 x3_1 x4_2 x5_2 = some r) ∧ Aside0 (kq ≤ k1) ∧ Aside0 (Kd.V Kd.string 9 w' w.heap.size (fun k_ => (P0_ k_ ∨ w.heap.size ≤ k_) ∧ some k_ ≠ (u3 : Value).ownBlock ∧ some k_ ≠ (v4 : Value).ownBlock) (.slice Ao5 x0_1.length co5) x0_1) ∧ Aside0 (Kd.N (Kd.slice 9 Kd.string) 22 w' w.heap.size (fun k_ => (P0_ k_ ∨ w.heap.size ≤ k_) ∧ some k_ ≠ (v4 : Value).ownBlock) u3 x3_1) ∧ Aside0 (Kd.R Kd.string 9 w' w.heap.size (fun k_ => (w.heap.size ≤ k_)) v4 x4_2) ∧ Aside0 (Below w.heap.size w w'))
    case atStart => exact ⟨(([] : List ByteArray)), (0), vq_, H', ⟨Nat.le_refl _⟩, ⟨by (with_reducible repeat (first | apply Kd.V_alloc | apply Kd.V_drewN | apply Kd.V_drew)); exact Kd.V_mono HO_0.out (fun _ hk => ⟨hk.1, ⟨hk.2, (by simp [Value.ownBlock])⟩⟩)⟩, ⟨by (with_reducible repeat (first | apply Kd.N_alloc | apply Kd.N_drewN | apply Kd.N_drew)); exact Kd.N_mono HO_3.out (fun _ hk => ⟨hk, (by simp [Value.ownBlock])⟩)⟩, ⟨by first | exact Kd.R_nil _ _ _ _ _ | exact Kd.N_nil _ _ _ _ _ | exact Kd.V_nil _ _ _ _ _ | exact Kd.Q_nil _ _ _ _ _ | exact Kd.S_nil _ _ _ _ _⟩, ⟨bl_⟩⟩
    case round =>
     clear H'
     clear c4b0 c4b1
     obtain ⟨x4_2, x5_2, rfl, HA, HK2, HO_0, HO_3, HO_4, HB⟩ := hrel
     cases gk with
     | zero => exact absurd HA.out (by simp [Jg.l1])
     | succ k2 =>
      have H := HA.out
      clear HA
      simp only [Jg.l1] at H
      by_cases c6 : (wrap64 (x5_2 + 1)) < (x0_1.length : Int)
      ·rw [if_pos c6] at H
       have c6b0 : decide ((wrap64 (x5_2 + 1)) < (x0_1.length : Int)) = true := decide_eq_true c6
       clear c6
       revert H; refine nd_ fun c7 c7b0 => nd_ fun c8 c8b0 H => ?_
       clear c7 c8
       generalize hji9 : (wrap64 (x5_2 + 1)) = ji9 at H
       rw [hji9] at c6b0
       have hji9w := (i64_w _).trans hji9
       revert H; refine nd_ fun c10 c10b0 H => ?_
       clear c10
       generalize e_ : (([rdOf ByteArray.empty x0_1 x5_2, rdOf ByteArray.empty x0_1 (ji9)] : List ByteArray) : List ByteArray) = y415 at H
       have Ny415 := Aside0.mk e_.symm
       clear e_
       revert H; refine oa_ fun t418 A11 => nc_ fun c12 H => ?_
       have LMc12 := Aside0.mk c12
       clear c12
       generalize e_ : (x4_2 ++ [t418] : List ByteArray) = y419 at H
       have Ny419 := Aside0.mk e_.symm
       clear e_
       have H' := Aside0.mk H
       clear H
       try go_wp2
       replace HB := Aside0.mk (below_drew1 HB.out)
       replace HO_4 := Aside0.mk (Kd.R_drew HO_4.out)
       replace HO_3 := Aside0.mk (Kd.N_drew HO_3.out)
       replace HO_0 := Aside0.mk (Kd.V_drew HO_0.out)
       have p413 : 0 ≤ (x5_2 : Int) := ae_
       have q413 : x5_2 < (x0_1.length : Int) := ae_
       obtain ⟨ad413, e413, hx413_0⟩ := Kd.at_string (Kd.V_reads' HO_0.out).2.2 x5_2 p413 q413
       cases e413
       replace p413 := eq_true p413
       replace q413 := eq_true q413
       have p414 : 0 ≤ ((ji9) : Int) := ae_
       have q414 : (ji9) < (x0_1.length : Int) := ae_
       obtain ⟨ad414, e414, hx414_0⟩ := Kd.at_string (Kd.V_reads' HO_0.out).2.2 (ji9) p414 q414
       obtain rfl : ad413 = ad414 := (by injection e414)
       replace p414 := eq_true p414
       replace q414 := eq_true q414
       refine sK_ 15 (fun w' => w'.cell? (ad413.add (x5_2).toNat) = some (.string (rdOf ByteArray.empty x0_1 x5_2)) ∧ w'.cell? (ad413.add ((ji9)).toNat) = some (.string (rdOf ByteArray.empty x0_1 (ji9)))) [12, 13] Jg.tab7 Jg.bits7 ⟨hx413_0, hx414_0⟩ fun hHeld HT_ HW_ => ?_
       generalize wr.drew = w13 at HO_0 HO_3 HO_4 HB hx413_0 hx414_0 hHeld ⊢
       refine runs_ [(0, some 18), (1, some 19), (2, some 20), (3, some 21), (5, some 23), (6, some 24), (7, some 25), (8, some 26), (4, some 22), (9, some 27)] ?_
       (iterate 8 (refine pL_ ?_)); (iterate 2 (refine tL_ ?_)); refine runsE_ ?_
       refine oK_ 10 (some 28) fun K hK => ?_
       refine Kd.R_lit_step Kd.string _ 9 ?hg (N := 28) ?hd (xs := ([rdOf ByteArray.empty x0_1 x5_2, rdOf ByteArray.empty x0_1 (ji9)] : List ByteArray)) (inner := [.string (rdOf ByteArray.empty x0_1 x5_2), .string (rdOf ByteArray.empty x0_1 (ji9))]) (ok := fun _ => True) (okp := fun _ => True) ?hr ?hp (fun _ hk => hk) trivial (Below.refl _ _) (Nat.le_refl _) (by simp) ?_; (case hd => rfl); (case hg => rfl); (case hr => exact gr_); (case hp => exact (Reps.one (show Kd.M Kd.string _ _ _ (rdOf ByteArray.empty x0_1 x5_2) [.string (rdOf ByteArray.empty x0_1 x5_2)] from rfl) (Reps.one (show Kd.M Kd.string _ _ _ (rdOf ByteArray.empty x0_1 (ji9)) [.string (rdOf ByteArray.empty x0_1 (ji9))] from rfl) (Reps.none _ _))))
       intro v416 w14 ho15 hb hg_ hnew_
       have HS0_ := (hb.cell (World.block_lt_of_cell? _ _ (hHeld.1))).trans (hHeld.1)
       have HS1_ := (hb.cell (World.block_lt_of_cell? _ _ (hHeld.2))).trans (hHeld.2)
       clear hg_ hnew_
       (first | rw [← Ny415.out] at ho15 | (simp only [Int.reduceToNat] at ho15; rw [← Ny415.out] at ho15))
       have HO417 := Aside0.mk (Kd.R_lower (Kd.R_new' (Kd.R_newM (M := fun k_ => (w.heap.size ≤ k_)) ho15 (below_size bl_) (fun k_ h_ => h_)) (Kd.R_lt (mv_ HO_4.out))) (below_size bl_))
       replace HB := Aside0.mk (below_step bl_ hb)
       replace HO_4 := Aside0.mk (Kd.R_elder' (mv_ HO_4.out) (Kd.R_base ho15) hb)
       replace HO_3 := Aside0.mk (Kd.N_elder' (by (with_reducible repeat (first | apply Kd.N_alloc | apply Kd.N_drewN | apply Kd.N_drew)); exact HO_3.out) (Kd.R_base ho15) hb)
       replace HO_0 := Aside0.mk (Kd.V_elder' (by (with_reducible repeat (first | apply Kd.V_alloc | apply Kd.V_drewN | apply Kd.V_drew)); exact HO_0.out) (Kd.R_base ho15) hb)
       clear hb ho15
       obtain ⟨Ao16, co16, eo16⟩ := Kd.R_slice HO417.out
       (first | subst eo16 | (injection eo16 with f1_ f2_ f3_; have f4_ := f1_.symm; have f5_ := f3_.symm; clear f1_ f2_ f3_; subst f4_; subst f5_))
       refine hK.out _ _ ⟨HS0_, HS1_⟩ (fun hHeld => ?_)
       clear hK K
       refine nK_ (some 28) ?_
       refine oK_ 11 (some 29) fun K hK => ?_
       refine goes_ Tryz.func31 (by kernel_rfl) rfl #[.int .i64 4, .slice Ao16 y415.length co16] (by rfl) rfl rfl gm1_ ?_
       with_reducible refine (Jo.calls k2 4 _ _ y415 t418 _ ?side1 ?side2 A11.out).mono ?_
       (case side1 => repeat (first | exact (Kd.R_reads' HO417.out).2.2 | (with_reducible refine Kd.C_alloc ?_ _) | (with_reducible refine Kd.C_drewN ?_ _) | (with_reducible refine Kd.C_drew ?_)))
       (case side2 => exact (Kd.R_reads' HO417.out).2.1)
       rintro e w17 ⟨rfl, hb⟩
       have HS0_ := (hb.cell (World.block_lt_of_cell? _ _ (hHeld.1))).trans (hHeld.1)
       have HS1_ := (hb.cell (World.block_lt_of_cell? _ _ (hHeld.2))).trans (hHeld.2)
       refine ⟨_, rfl, ?_⟩
       replace HB := Aside0.mk (below_step bl_ hb)
       replace HO417 := Aside0.mk (Kd.R_below (mv_ HO417.out) hb)
       replace HO_4 := Aside0.mk (Kd.R_below (mv_ HO_4.out) hb)
       replace HO_3 := Aside0.mk (Kd.N_below (by (with_reducible repeat (first | apply Kd.N_alloc | apply Kd.N_drewN | apply Kd.N_drew)); exact HO_3.out) hb)
       replace HO_0 := Aside0.mk (Kd.V_below (by (with_reducible repeat (first | apply Kd.V_alloc | apply Kd.V_drewN | apply Kd.V_drew)); exact HO_0.out) hb)
       clear hb
       refine hK.out _ _ ⟨HS0_, HS1_⟩ (fun hHeld => ?_)
       clear hK K
       refine nK_ (some 29) ?_
       refine lK_ 12 (some 30) fun K hK => ?_
       refine value_ (w1 := ?_) (v := ?_) (by rfl) rfl ?_ ?_
       rotate_left 2
       ·go_simp
        constructor
        ·rfl
        rfl
       refine hK.out _ _ ?_
       clear hK K
       refine nK_ (some 30) ?_
       refine lK_ 13 (some 31) fun K hK => ?_
       refine Kd.R_append_step Kd.string (w0 := w) w.heap.size (by rfl) (.tmp 18) (.tmp 30) 22 9 (.string ⟨#[]⟩) 16 rfl Tryz.underlying22 info9 rfl (by decide) (by omega) u4 x4_2 t418 [.string t418] (fun k_ => (w.heap.size ≤ k_) ∧ some k_ ≠ (.slice Ao16 y415.length co16 : Value).ownBlock) (fun _ => False) rfl rfl ?aP (fun _ hk => hk.elim) ?aF ?aO ?aB ?aS ?aL ?_
       (case aP => exact rfl)
       (case aB => exact bl_)
       (case aF => exact (fun k_ hk => ⟨(Nat.le_trans (below_size bl_) hk), Kd.fresh' (Kd.R_lt (mv_ HO417.out)) k_ hk⟩))
       (case aO => exact (mv_ HO_4.out))
       (case aS => exact (below_size bl_))
       (case aL => have := LMc12.out; omega)
       intro v420 w18 ho hb hg hat
       rw [← Ny419.out] at ho
       have HO421 := Aside0.mk (ho)
       replace HB := Aside0.mk (hb)
       replace HO417 := Aside0.mk (Kd.R_after (ok := (fun k_ => (w.heap.size ≤ k_))) (by refine mv_ ?_; exact Kd.R_mono HO417.out (fun _ hk => ⟨hk.1.1, hk.2⟩)) hg hat)
       replace HO_3 := Aside0.mk (Kd.N_afterv (ok := (fun k_ => (P0_ k_ ∨ w.heap.size ≤ k_) ∧ some k_ ≠ (.slice Ao16 y415.length co16 : Value).ownBlock)) (by (with_reducible repeat (first | apply Kd.N_alloc | apply Kd.N_drewN | apply Kd.N_drew)); exact Kd.N_mono HO_3.out (fun _ hk => ⟨⟨hk.1.1, hk.2⟩, hk.1.2⟩)) hg hat)
       replace HO_0 := Aside0.mk (Kd.V_afterv (ok := (fun k_ => (P0_ k_ ∨ w.heap.size ≤ k_) ∧ some k_ ≠ (u3 : Value).ownBlock ∧ some k_ ≠ (.slice Ao16 y415.length co16 : Value).ownBlock)) (by (with_reducible repeat (first | apply Kd.V_alloc | apply Kd.V_drewN | apply Kd.V_drew)); exact Kd.V_mono HO_0.out (fun _ hk => ⟨⟨hk.1.1, ⟨hk.1.2.1, hk.2⟩⟩, hk.1.2.2⟩)) hg hat)
       clear HO_4
       clear ho hb hg hat
       refine hK.out _ _ ?_
       clear hK K
       refine nK_ (some 31) ?_
       refine pK_ 14 4 ?_
       refine dK_ ?_
       try go_wp2
       go_roundg k2
       case measure => have := HK1.out; have := HK2.out; omega
       case rel => exact ⟨(y419), (wrap64 (x5_2 + 2)), vq_, H', ⟨by have := HK1.out; have := HK2.out; omega⟩, ⟨by (with_reducible repeat (first | apply Kd.V_alloc | apply Kd.V_drewN | apply Kd.V_drew)); exact Kd.V_mono HO_0.out (fun _ hk => ⟨hk.1.1, ⟨hk.1.2.1, hk.2⟩⟩)⟩, ⟨by (with_reducible repeat (first | apply Kd.N_alloc | apply Kd.N_drewN | apply Kd.N_drew)); exact Kd.N_mono HO_3.out (fun _ hk => ⟨hk.1.1, hk.2⟩)⟩, ⟨by refine mv_ ?_; exact Kd.R_mono HO421.out (fun _ hk => hk.1)⟩, ⟨bl_⟩⟩
      rw [if_neg c6] at H
      have c6b0 : decide ((wrap64 (x5_2 + 1)) < (x0_1.length : Int)) = false := decide_eq_false c6
      clear c6
      revert H; refine nc_ fun c19 H => ?_
      have LMc19 := Aside0.mk c19
      clear c19
      generalize e_ : (x3_1 ++ [x4_2] : List (List ByteArray)) = y423 at H
      have Ny423 := Aside0.mk e_.symm
      clear e_
      have H' := Aside0.mk H
      clear H
      have HO422 := Aside0.mk (show Kd.V Kd.string 9 _ w.heap.size _ _ _ from Kd.V_mono (ok' := (fun k_ => ((P0_ k_ ∨ w.heap.size ≤ k_) ∧ some k_ ≠ (u3 : Value).ownBlock))) (Kd.R_V (Kd.R_apart' (HO_4.out) (Kd.N_typed HO_3.out) (by decide))) (fun k_ hk => ⟨(.inr (hk.1)), hk.2⟩))
      clear HO_4
      obtain ⟨Ao21, co21, eo21⟩ := Kd.V_slice HO422.out
      subst eo21
      go_wp2_with (first | ((with_reducible refine gate_builtin (b := .append) (xs := #[.tmp 33, .tmp 35]) rfl ?_); at_builtin; refine Kd.N_append (Kd.slice 9 Kd.string) (w0 := w) w.heap.size rfl (.tmp 33) (.tmp 35) 103 22 (.slice none 0 0) 24 rfl Tryz.underlying103 info22 rfl (by decide) (by omega) u3 x3_1 x4_2 [.slice Ao21 x4_2.length co21] (fun k_ => (P0_ k_ ∨ w.heap.size ≤ k_)) (fun k_ => ((fun k_ => (P0_ k_ ∨ w.heap.size ≤ k_))) k_ ∧ some k_ ≠ (u3 : Value).ownBlock) rfl rfl ?aP (fun _ hk => hk) ?aF ?aO ?aB ?aS ?aL ?_; (case aP => exact (Kd.FK_slice_mk (Kd.V_reads' (Kd.V_mono (ok' := (fun k_ => ((fun k_ => (P0_ k_ ∨ w.heap.size ≤ k_))) k_ ∧ some k_ ≠ (u3 : Value).ownBlock)) (HO422.out) (fun k_ hk => ⟨hk.1, hk.2⟩))).2.1 (Kd.V_F (Kd.V_mono (ok' := (fun k_ => ((fun k_ => (P0_ k_ ∨ w.heap.size ≤ k_))) k_ ∧ some k_ ≠ (u3 : Value).ownBlock)) (HO422.out) (fun k_ hk => ⟨hk.1, hk.2⟩))))); (case aB => exact bl_); (case aF => exact (fun k_ hk => (.inr (Nat.le_trans (below_size bl_) hk)))); (case aO => exact (by (with_reducible repeat (first | apply Kd.N_alloc | apply Kd.N_drewN | apply Kd.N_drew)); exact Kd.N_mono HO_3.out (fun _ hk => hk.1))); (case aS => exact (below_size bl_)); (case aL => have := LMc19.out; omega); intro v424 w20 ho hb hg hat; rw [← Ny423.out] at ho; have HO425 := Aside0.mk (ho); replace HB := Aside0.mk (hb); replace HO422 := Aside0.mk (Kd.V_afterv (ok := (fun k_ => (P0_ k_ ∨ w.heap.size ≤ k_))) (by (with_reducible repeat (first | apply Kd.V_alloc | apply Kd.V_drewN | apply Kd.V_drew)); exact HO422.out) hg hat); replace HO_0 := Aside0.mk (Kd.V_afterv (ok := (fun k_ => (P0_ k_ ∨ w.heap.size ≤ k_))) (by (with_reducible repeat (first | apply Kd.V_alloc | apply Kd.V_drewN | apply Kd.V_drew)); exact Kd.V_mono HO_0.out (fun _ hk => ⟨hk.1, hk.2.1⟩)) hg hat); clear HO_3; clear ho hb hg hat))
      go_roundg k2
      case measure => have := HK1.out; have := HK2.out; omega
      case rel => exact ⟨(x4_2), (y423), H', ⟨by have := HK1.out; have := HK2.out; omega⟩, ⟨by (with_reducible repeat (first | apply Kd.V_alloc | apply Kd.V_drewN | apply Kd.V_drew)); exact HO422.out⟩, ⟨by (with_reducible repeat (first | apply Kd.N_alloc | apply Kd.N_drewN | apply Kd.N_drew)); exact HO425.out⟩, ⟨bl_⟩⟩
   rw [if_neg c4] at H
   have c4b0 : decide (1 < (x0_1.length : Int)) = false := decide_eq_false c4
   have c4b1 : decide (1 < x0_1.length) = false := decide_eq_false (by omega)
   clear c4
   obtain rfl := Option.some.inj H
   obtain ⟨Ao22, co22, eo22⟩ := Kd.V_slice HO_0.out
   subst eo22
   go_wp2
   go_ret
   exact ⟨_, er_, by (with_reducible repeat (first | apply Kd.N_alloc | apply Kd.N_drewN | apply Kd.N_drew)); exact HO_3.out, bl_⟩

/-! ### Ut = palaverref04_Root: function 38 -/
def Ut.f (k : Nat) (l0 : List ByteArray) : Option (ByteArray) := (Jg.f k l0).bind fun t426 => (if 0 ≤ (wrap64 ((t426.length : Int) - 1)) then (if (wrap64 ((t426.length : Int) - 1)) < (t426.length : Int) then (if 0 < ((rd_L4 t426 (wrap64 ((t426.length : Int) - 1))).length : Int) then (some (rdOf ByteArray.empty (rd_L4 t426 (wrap64 ((t426.length : Int) - 1))) 0)) else (none)) else (none)) else (none))
set_option maxHeartbeats 64000000 in
set_option maxRecDepth 100000 in
theorem Ut.calls (k : Nat) (A0 : Option Addr) (c0 : Nat) (l0 : List ByteArray) (r : ByteArray) (w : World) (hr0 : Kd.C Kd.string w A0 l0.length l0) (hc0 : l0.length ≤ c0) (h : Ut.f k l0 = some r) :
 Calls Tryz.prog 38 #[.slice A0 l0.length c0] w fun e w' => e = .returned (.string r) ∧ Below w.heap.size w w' := by
 have HR0 := Aside0.mk hr0
 have HC0 := Aside0.mk hc0
 clear hr0 hc0
 have HB := Aside0.mk (Below.refl w.heap.size w)
 have H : ((Jg.f k l0).bind fun t426 => (if 0 ≤ (wrap64 ((t426.length : Int) - 1)) then (if (wrap64 ((t426.length : Int) - 1)) < (t426.length : Int) then (if 0 < ((rd_L4 t426 (wrap64 ((t426.length : Int) - 1))).length : Int) then (some (rdOf ByteArray.empty (rd_L4 t426 (wrap64 ((t426.length : Int) - 1))) 0)) else (none)) else (none)) else (none))) = some r := h
 clear h
 revert H; refine oa_ fun t426 A2 H => ?_
 generalize hji3 : (wrap64 ((t426.length : Int) - 1)) = ji3 at H
 (try rw [hji3] at A2)
 have hji3w := (i64_w _).trans hji3
 revert H; refine nd_ fun c4 c4b0 => nd_ fun c5 c5b0 => nd_ fun c6 c6b0 H => ?_
 have c6b1 : decide (0 < (rd_L4 t426 (ji3)).length) = true := decide_eq_true (by omega)
 clear c4 c5 c6
 obtain rfl := Option.some.inj H
 go_enter Tryz.func38, Tryz.ntmps38
 go_wp2_with (first | ((with_reducible refine gate_callee (f := 63) rfl ?_); refine gL_ 5 Tryz.func63 #[.slice A0 l0.length c0] ?_; (with_reducible refine (Jg.calls k (fun k_ => k_ < w.heap.size) _ _ l0 t426 _ ?side1 A2.out).mono ?_); (case side1 => exact Kd.V_mk HC0.out (Kd.F_below (Kd.C_F Kd.heap_string HR0.out) bl_)); rintro e w7 ⟨v427, rfl, ho0, hb⟩; refine ⟨_, rfl, ?_⟩; have HO428 := Aside0.mk (Kd.N_lower (Kd.N_mono (ok' := fun k_ => True) ho0 (fun k_ hk_ => trivial)) (below_size bl_)); replace HB := Aside0.mk (below_step bl_ hb); (try clear hb); (try clear hb2); (try clear hk); (try clear hi); (try clear ho0); obtain ⟨Ao8, co8, eo8⟩ := Kd.N_slice HO428.out; subst eo8; have p429 : 0 ≤ ((ji3) : Int) := ae_; have q429 : (ji3) < (t426.length : Int) := ae_; obtain ⟨ad429, A429_0, c429_0, e429, hx429_0, hl429_0, hi429_0⟩ := at_L4 (Kd.N_reads' HO428.out).2.2 (ji3) p429 q429; cases e429; obtain ⟨ce429, hce429, hMe429, hcc429⟩ := Kd.N_get HO428.out [] (ji3) p429 (by first | exact q429 | exact ae_ | (have e_ := (Kd.N_reads' HO428.out).1; omega)); obtain ⟨ua429_0, uc429_0, rfl, ul429_0, ge429_0⟩ := Kd.FK_slice_open hMe429; have hv429_0 := hcc429 0 _ rfl; rw [Nat.add_zero, show ((Kd.slice 9 Kd.string)).sz = 1 from rfl, Nat.mul_one] at hv429_0; replace hv429_0 := Option.some.inj (hv429_0.symm.trans hx429_0); injection hv429_0 with hva_ hvn_ hvc_; rw [hva_] at ge429_0; rw [hvc_] at ul429_0; have HL429_0 := Aside0.mk (show Kd.V Kd.string 9 _ w.heap.size _ _ (rd_L4 t426 (ji3)) from Kd.V_mk ul429_0 ge429_0); clear hva_ hvn_ hvc_ ge429_0 ul429_0; clear hcc429 hce429; have HR429_0 := Aside0.mk hi429_0; have HC429_0 := Aside0.mk hl429_0; clear hi429_0 hl429_0; replace p429 := eq_true p429; replace q429 := eq_true q429; have p430 : 0 ≤ (0 : Int) := (by omega); have q430 : 0 < ((rd_L4 t426 (ji3)).length : Int) := ae_; obtain ⟨ad430, e430, hx430_0⟩ := Kd.at_string (by repeat (first | (with_reducible exact HR429_0.out) | (with_reducible refine Kd.C_alloc ?_ _) | (with_reducible refine Kd.C_drewN ?_ _) | (with_reducible refine Kd.C_drew ?_) | exact HR429_0.out)) 0 p430 q430; cases e430; have qi430 : (0 < (rd_L4 t426 (ji3)).length) = True := eq_true (by omega); (try rw [show ((0 : Int)).toNat = 0 from rfl] at hx430_0); (try rw [Addr.add_zero'] at hx430_0); replace p430 := eq_true p430; replace q430 := eq_true q430))
 go_ret
 exact ⟨by first | rfl | (simp [errW_none, errW_some] <;> rfl) | (simp only [← hji3]; first | rfl | (simp [errW_none, errW_some] <;> rfl)) | (simp [*, errW_none, errW_some] <;> rfl), bl_⟩

/-! ### Uu = palaverref03_Step: function 61 -/
def Uu.f (k : Nat) (a0 : Int) (a1 : ByteArray) : Option (ByteArray) := (Jc.f k (Int.tmod (wrap64 ((Int.tmod a0 256) + 256)) 256) 1).bind fun bt431 => ((Jo.f k 1 (([bt431.1, a1] : List ByteArray))).bind fun t436 => (some t436))
set_option maxHeartbeats 64000000 in
set_option maxRecDepth 100000 in
theorem Uu.calls (k : Nat) (a0 : Int) (a1 : ByteArray) (r : ByteArray) (w : World) (h : Uu.f k a0 a1 = some r) :
 Calls Tryz.prog 61 #[.int .i64 a0, .string a1] w fun e w' => e = .returned (.string r) ∧ Below w.heap.size w w' := by
 have HB := Aside0.mk (Below.refl w.heap.size w)
 have H : ((Jc.f k (Int.tmod (wrap64 ((Int.tmod a0 256) + 256)) 256) 1).bind fun bt431 => ((Jo.f k 1 (([bt431.1, a1] : List ByteArray))).bind fun t436 => (some t436))) = some r := h
 clear h
 replace H := ob_ H
 obtain ⟨⟨t431, t432⟩, A30, H⟩ := H
 replace H : ((Jo.f k 1 (([t431, a1] : List ByteArray))).bind fun t436 => (some t436)) = some r := H
 have A3 := Aside0.mk A30
 clear A30
 generalize e_ : (([t431, a1] : List ByteArray) : List ByteArray) = y433 at H
 have Ny433 := Aside0.mk e_.symm
 clear e_
 revert H; refine oa_ fun t436 A4 H => ?_
 obtain rfl := Option.some.inj H
 go_enter Tryz.func61, Tryz.ntmps61
 go_wp2_with (first | ((with_reducible refine gate_callee (f := 33) rfl ?_); refine gL_ 12 Tryz.func33 #[.int .i64 (Int.tmod (wrap64 ((Int.tmod a0 256) + 256)) 256), .int .i64 1] ?_; (with_reducible refine (Jc.calls k (Int.tmod (wrap64 ((Int.tmod a0 256) + 256)) 256) 1 t431 t432 _ A3.out).mono ?_); rintro e w5 ⟨rfl, hb⟩; refine ⟨_, rfl, ?_⟩; replace HB := Aside0.mk (below_step bl_ hb); clear hb) | ((with_reducible refine gate_dst (N := 17) rfl ?_); refine Kd.R_lit Kd.string _ 9 ?hg (N := 17) ?hd (xs := ([t431, a1] : List ByteArray)) (inner := [.string t431, .string a1]) (ok := fun _ => True) (okp := fun _ => True) ?hr ?hp (fun _ hk => hk) trivial (Below.refl _ _) (Nat.le_refl _) (by simp) ?_; (case hd => rfl); (case hg => rfl); (case hr => exact gr_); (case hp => exact (Reps.one (show Kd.M Kd.string _ _ _ t431 [.string t431] from rfl) (Reps.one (show Kd.M Kd.string _ _ _ a1 [.string a1] from rfl) (Reps.none _ _)))); intro v434 w6 ho7 hb hg_ hnew_; clear hg_ hnew_; (first | rw [← Ny433.out] at ho7 | (simp only [Int.reduceToNat] at ho7; rw [← Ny433.out] at ho7)); have HO435 := Aside0.mk (Kd.R_lower ho7 (below_size bl_)); replace HB := Aside0.mk (below_step bl_ hb); clear hb ho7; obtain ⟨Ao8, co8, eo8⟩ := Kd.R_slice HO435.out; subst eo8) | ((with_reducible refine gate_callee (f := 31) rfl ?_); refine gL_ 18 Tryz.func31 #[.int .i64 1, .slice Ao8 y433.length co8] ?_; (with_reducible refine (Jo.calls k 1 _ _ y433 t436 _ ?side1 ?side2 A4.out).mono ?_); (case side1 => repeat (first | exact (Kd.R_reads' HO435.out).2.2 | (with_reducible refine Kd.C_alloc ?_ _) | (with_reducible refine Kd.C_drewN ?_ _) | (with_reducible refine Kd.C_drew ?_))); (case side2 => exact (Kd.R_reads' HO435.out).2.1); rintro e w9 ⟨rfl, hb⟩; refine ⟨_, rfl, ?_⟩; replace HB := Aside0.mk (below_step bl_ hb); replace HO435 := Aside0.mk (Kd.R_below (mv_ HO435.out) hb); clear hb))
 go_ret
 exact ⟨er_, bl_⟩

/-! ### Jx = palaverref03_Chain: function 66 -/
def Jx.l0 : Nat → Int → ByteArray → Int → Int → Option (ByteArray)
 | 0, _, _, _, _ => none
 | k + 1, x0, x1, x2, x7 => if x7 < x2 then (if x7 < 1000 then ((Uu.f k x0 x1).bind fun t437 => (Jx.l0 k x0 t437 x2 (wrap64 (x7 + 1)))) else (some x1)) else (some x1)
def Jx.f (k : Nat) (a0 : Int) (a1 : ByteArray) (a2 : Int) : Option (ByteArray) := Jx.l0 k a0 a1 a2 0
set_option maxHeartbeats 64000000 in
set_option maxRecDepth 100000 in
theorem Jx.calls (k : Nat) (a0 : Int) (a1 : ByteArray) (a2 : Int) (r : ByteArray) (w : World) (h : Jx.f k a0 a1 a2 = some r) :
 Calls Tryz.prog 66 #[.int .i64 a0, .string a1, .int .i64 a2] w fun e w' => e = .returned (.string r) ∧ Below w.heap.size w w' := by
 have HB := Aside0.mk (Below.refl w.heap.size w)
 have H : (Jx.l0 k a0 a1 a2 0) = some r := h
 clear h
 have H' := Aside0.mk H
 clear H
 go_enter Tryz.func66, Tryz.ntmps66
 go_wp2
 go_loopg [1, 7] k (fun kq v1 v7 w' => ∃ (x1_1 : ByteArray) (x7_1 : Int), v1 = .string x1_1 ∧ v7 = .int .i64 x7_1 ∧ Aside0 (Jx.l0 kq a0 x1_1 a2 x7_1 = some r) ∧ Aside0 (kq ≤ k) ∧ Aside0 (Below w.heap.size w w'))
 case atStart => exact ⟨(a1), (0), vq_, vq_, H', ⟨Nat.le_refl _⟩, ⟨bl_⟩⟩
 case round =>
  clear H'
  obtain ⟨x1_1, x7_1, rfl, rfl, HA, HK1, HB⟩ := hrel
  cases gk with
  | zero => exact absurd HA.out (by simp [Jx.l0])
  | succ k1 =>
   have H := HA.out
   clear HA
   simp only [Jx.l0] at H
   by_cases c4 : x7_1 < a2
   ·rw [if_pos c4] at H
    have c4b0 : decide (x7_1 < a2) = true := decide_eq_true c4
    clear c4
    by_cases c5 : x7_1 < 1000
    ·rw [if_pos c5] at H
     have c5b0 : decide (x7_1 < 1000) = true := decide_eq_true c5
     clear c5
     revert H; refine oa_ fun t437 A6 H => ?_
     have H' := Aside0.mk H
     clear H
     go_wp2_with (first | ((with_reducible refine gate_callee (f := 61) rfl ?_); refine gL_ 19 Tryz.func61 #[.int .i64 a0, .string x1_1] ?_; (with_reducible refine (Uu.calls k1 a0 x1_1 t437 _ A6.out).mono ?_); rintro e w7 ⟨rfl, hb⟩; refine ⟨_, rfl, ?_⟩; replace HB := Aside0.mk (below_step bl_ hb); clear hb))
     go_roundg k1
     case measure => have := HK1.out; omega
     case rel => exact ⟨(t437), (wrap64 (x7_1 + 1)), vq_, vq_, H', ⟨by have := HK1.out; omega⟩, ⟨bl_⟩⟩
    rw [if_neg c5] at H
    have c5b0 : decide (x7_1 < 1000) = false := decide_eq_false c5
    clear c5
    obtain rfl := Option.some.inj H
    go_wp2
    go_ret
    exact ⟨er_, bl_⟩
   rw [if_neg c4] at H
   have c4b0 : decide (x7_1 < a2) = false := decide_eq_false c4
   clear c4
   obtain rfl := Option.some.inj H
   go_wp2
   go_ret
   exact ⟨er_, bl_⟩

/-! ### Uf = palaverref03_Secret: function 67 -/
def Uf.f (k : Nat) (a0 : ByteArray) (a1 : Int) (a2 : Int) : Option (ByteArray) := (Jc.f k a1 2).bind fun bt438 => ((Jc.f k a2 1).bind fun bt440 => ((Jo.f k 2 (([a0, bt438.1, bt440.1] : List ByteArray))).bind fun t445 => (some t445)))
set_option maxHeartbeats 64000000 in
set_option maxRecDepth 100000 in
theorem Uf.calls (k : Nat) (a0 : ByteArray) (a1 : Int) (a2 : Int) (r : ByteArray) (w : World) (h : Uf.f k a0 a1 a2 = some r) :
 Calls Tryz.prog 67 #[.string a0, .int .i64 a1, .int .i64 a2] w fun e w' => e = .returned (.string r) ∧ Below w.heap.size w w' := by
 have HB := Aside0.mk (Below.refl w.heap.size w)
 have H : ((Jc.f k a1 2).bind fun bt438 => ((Jc.f k a2 1).bind fun bt440 => ((Jo.f k 2 (([a0, bt438.1, bt440.1] : List ByteArray))).bind fun t445 => (some t445)))) = some r := h
 clear h
 replace H := ob_ H
 obtain ⟨⟨t438, t439⟩, A40, H⟩ := H
 replace H : ((Jc.f k a2 1).bind fun bt440 => ((Jo.f k 2 (([a0, t438, bt440.1] : List ByteArray))).bind fun t445 => (some t445))) = some r := H
 have A4 := Aside0.mk A40
 clear A40
 replace H := ob_ H
 obtain ⟨⟨t440, t441⟩, A50, H⟩ := H
 replace H : ((Jo.f k 2 (([a0, t438, t440] : List ByteArray))).bind fun t445 => (some t445)) = some r := H
 have A5 := Aside0.mk A50
 clear A50
 generalize e_ : (([a0, t438, t440] : List ByteArray) : List ByteArray) = y442 at H
 have Ny442 := Aside0.mk e_.symm
 clear e_
 revert H; refine oa_ fun t445 A6 H => ?_
 obtain rfl := Option.some.inj H
 go_enter Tryz.func67, Tryz.ntmps67
 go_wp2_with (first | ((with_reducible refine gate_callee (f := 33) rfl ?_); refine gL_ 13 Tryz.func33 #[.int .i64 a1, .int .i64 2] ?_; (with_reducible refine (Jc.calls k a1 2 t438 t439 _ A4.out).mono ?_); rintro e w7 ⟨rfl, hb⟩; refine ⟨_, rfl, ?_⟩; replace HB := Aside0.mk (below_step bl_ hb); clear hb) | ((with_reducible refine gate_callee (f := 33) rfl ?_); refine gL_ 18 Tryz.func33 #[.int .i64 a2, .int .i64 1] ?_; (with_reducible refine (Jc.calls k a2 1 t440 t441 _ A5.out).mono ?_); rintro e w8 ⟨rfl, hb⟩; refine ⟨_, rfl, ?_⟩; replace HB := Aside0.mk (below_step bl_ hb); clear hb) | ((with_reducible refine gate_dst (N := 24) rfl ?_); refine Kd.R_lit Kd.string _ 9 ?hg (N := 24) ?hd (xs := ([a0, t438, t440] : List ByteArray)) (inner := [.string a0, .string t438, .string t440]) (ok := fun _ => True) (okp := fun _ => True) ?hr ?hp (fun _ hk => hk) trivial (Below.refl _ _) (Nat.le_refl _) (by simp) ?_; (case hd => rfl); (case hg => rfl); (case hr => exact gr_); (case hp => exact (Reps.one (show Kd.M Kd.string _ _ _ a0 [.string a0] from rfl) (Reps.one (show Kd.M Kd.string _ _ _ t438 [.string t438] from rfl) (Reps.one (show Kd.M Kd.string _ _ _ t440 [.string t440] from rfl) (Reps.none _ _))))); intro v443 w9 ho10 hb hg_ hnew_; clear hg_ hnew_; (first | rw [← Ny442.out] at ho10 | (simp only [Int.reduceToNat] at ho10; rw [← Ny442.out] at ho10)); have HO444 := Aside0.mk (Kd.R_lower ho10 (below_size bl_)); replace HB := Aside0.mk (below_step bl_ hb); clear hb ho10; obtain ⟨Ao11, co11, eo11⟩ := Kd.R_slice HO444.out; subst eo11) | ((with_reducible refine gate_callee (f := 31) rfl ?_); refine gL_ 25 Tryz.func31 #[.int .i64 2, .slice Ao11 y442.length co11] ?_; (with_reducible refine (Jo.calls k 2 _ _ y442 t445 _ ?side1 ?side2 A6.out).mono ?_); (case side1 => repeat (first | exact (Kd.R_reads' HO444.out).2.2 | (with_reducible refine Kd.C_alloc ?_ _) | (with_reducible refine Kd.C_drewN ?_ _) | (with_reducible refine Kd.C_drew ?_))); (case side2 => exact (Kd.R_reads' HO444.out).2.1); rintro e w12 ⟨rfl, hb⟩; refine ⟨_, rfl, ?_⟩; replace HB := Aside0.mk (below_step bl_ hb); replace HO444 := Aside0.mk (Kd.R_below (mv_ HO444.out) hb); clear hb))
 go_ret
 exact ⟨er_, bl_⟩

/-! ### J6 = palaverref03_Public: function 64 -/
def J6.l0 : Nat → ByteArray → Int → List ByteArray → Int → Option (ByteArray)
 | 0, _, _, _, _ => none
 | k + 1, x0, x1, x5, x6 => if x6 < 67 then ((Uf.f k x0 x1 x6).bind fun t446 => ((Jx.f k x6 t446 15).bind fun t447 => (if x5.length < 8796093022208 then (J6.l0 k x0 x1 (x5 ++ [t447]) (wrap64 (x6 + 1))) else (none)))) else ((Jo.f k 3 x5).bind fun t451 => (some t451))
def J6.f (k : Nat) (a0 : ByteArray) (a1 : Int) : Option (ByteArray) := J6.l0 k a0 a1 ([] : List ByteArray) 0
set_option maxHeartbeats 64000000 in
set_option maxRecDepth 100000 in
theorem J6.calls (k : Nat) (a0 : ByteArray) (a1 : Int) (r : ByteArray) (w : World) (h : J6.f k a0 a1 = some r) :
 Calls Tryz.prog 64 #[.string a0, .int .i64 a1] w fun e w' => e = .returned (.string r) ∧ Below w.heap.size w w' := by
 have HB := Aside0.mk (Below.refl w.heap.size w)
 have H : (J6.l0 k a0 a1 ([] : List ByteArray) 0) = some r := h
 clear h
 have H' := Aside0.mk H
 clear H
 go_enter Tryz.func64, Tryz.ntmps64
 go_wp2
 go_loopg [5, 6] k (fun kq v5 v6 w' => ∃ (x5_1 : List ByteArray) (x6_1 : Int), v6 = .int .i64 x6_1 ∧ Aside0 (J6.l0 kq a0 a1 x5_1 x6_1 = some r) ∧ Aside0 (kq ≤ k) ∧ Aside0 (Kd.R Kd.string 9 w' w.heap.size (fun _ => True) v5 x5_1) ∧ Aside0 (Below w.heap.size w w'))
 case atStart => exact ⟨(([] : List ByteArray)), (0), vq_, H', ⟨Nat.le_refl _⟩, ⟨by first | exact Kd.R_nil _ _ _ _ _ | exact Kd.N_nil _ _ _ _ _ | exact Kd.V_nil _ _ _ _ _ | exact Kd.Q_nil _ _ _ _ _ | exact Kd.S_nil _ _ _ _ _⟩, ⟨bl_⟩⟩
 case round =>
  clear H'
  obtain ⟨x5_1, x6_1, rfl, HA, HK1, HO_5, HB⟩ := hrel
  cases gk with
  | zero => exact absurd HA.out (by simp [J6.l0])
  | succ k1 =>
   have H := HA.out
   clear HA
   simp only [J6.l0] at H
   by_cases c3 : x6_1 < 67
   ·rw [if_pos c3] at H
    have c3b0 : decide (x6_1 < 67) = true := decide_eq_true c3
    clear c3
    revert H; refine oa_ fun t446 A4 => oa_ fun t447 A5 => nc_ fun c6 H => ?_
    have LMc6 := Aside0.mk c6
    clear c6
    generalize e_ : (x5_1 ++ [t447] : List ByteArray) = y448 at H
    have Ny448 := Aside0.mk e_.symm
    clear e_
    have H' := Aside0.mk H
    clear H
    go_wp2_with (first | ((with_reducible refine gate_callee (f := 67) rfl ?_); refine gL_ 16 Tryz.func67 #[.string a0, .int .i64 a1, .int .i64 x6_1] ?_; (with_reducible refine (Uf.calls k1 a0 a1 x6_1 t446 _ A4.out).mono ?_); rintro e w7 ⟨rfl, hb⟩; refine ⟨_, rfl, ?_⟩; replace HB := Aside0.mk (below_step bl_ hb); replace HO_5 := Aside0.mk (Kd.R_below (mv_ HO_5.out) hb); clear hb) | ((with_reducible refine gate_callee (f := 66) rfl ?_); refine gL_ 17 Tryz.func66 #[.int .i64 x6_1, .string t446, .int .i64 15] ?_; (with_reducible refine (Jx.calls k1 x6_1 t446 15 t447 _ A5.out).mono ?_); rintro e w8 ⟨rfl, hb⟩; refine ⟨_, rfl, ?_⟩; replace HB := Aside0.mk (below_step bl_ hb); replace HO_5 := Aside0.mk (Kd.R_below (mv_ HO_5.out) hb); clear hb) | ((with_reducible refine gate_builtin (b := .append) (xs := #[.tmp 11, .tmp 18]) rfl ?_); at_builtin; refine Kd.R_append Kd.string (w0 := w) w.heap.size rfl (.tmp 11) (.tmp 18) 22 9 (.string ⟨#[]⟩) 16 rfl Tryz.underlying22 info9 rfl (by decide) (by omega) u5 x5_1 t447 [.string t447] (fun _ => True) (fun _ => False) rfl rfl ?aP (fun _ hk => hk.elim) ?aF ?aO ?aB ?aS ?aL ?_; (case aP => exact rfl); (case aB => exact bl_); (case aF => exact (fun _ _ => trivial)); (case aO => exact (mv_ HO_5.out)); (case aS => exact (below_size bl_)); (case aL => have := LMc6.out; omega); intro v449 w9 ho hb hg hat; rw [← Ny448.out] at ho; have HO450 := Aside0.mk (ho); replace HB := Aside0.mk (hb); clear HO_5; clear ho hb hg hat))
    go_roundg k1
    case measure => have := HK1.out; omega
    case rel => exact ⟨(y448), (wrap64 (x6_1 + 1)), vq_, H', ⟨by have := HK1.out; omega⟩, ⟨mv_ HO450.out⟩, ⟨bl_⟩⟩
   rw [if_neg c3] at H
   have c3b0 : decide (x6_1 < 67) = false := decide_eq_false c3
   clear c3
   revert H; refine oa_ fun t451 A10 H => ?_
   obtain rfl := Option.some.inj H
   obtain ⟨Ao11, co11, eo11⟩ := Kd.R_slice HO_5.out
   subst eo11
   go_wp2_with (first | ((with_reducible refine gate_callee (f := 31) rfl ?_); refine gL_ 21 Tryz.func31 #[.int .i64 3, .slice Ao11 x5_1.length co11] ?_; (with_reducible refine (Jo.calls k1 3 _ _ x5_1 t451 _ ?side1 ?side2 A10.out).mono ?_); (case side1 => repeat (first | exact (Kd.R_reads' HO_5.out).2.2 | (with_reducible refine Kd.C_alloc ?_ _) | (with_reducible refine Kd.C_drewN ?_ _) | (with_reducible refine Kd.C_drew ?_))); (case side2 => exact (Kd.R_reads' HO_5.out).2.1); rintro e w12 ⟨rfl, hb⟩; refine ⟨_, rfl, ?_⟩; replace HB := Aside0.mk (below_step bl_ hb); replace HO_5 := Aside0.mk (Kd.R_below (mv_ HO_5.out) hb); clear hb))
   go_ret
   exact ⟨er_, bl_⟩

/-! ### Jl = palaverref05_Leaves: function 39 -/
mutual
def Jl.l0 : Nat → ByteArray → Int → Int → Int → Option (List ByteArray)
 | 0, _, _, _, _ => none
 | k + 1, x0, x1, x6, x7 => if x7 < x1 then (Jl.l0 k x0 x1 (wrap64 (2 * x6)) (wrap64 (x7 + 1))) else (Jl.l1 k x0 ([] : List ByteArray) x6 0)
def Jl.l1 : Nat → ByteArray → List ByteArray → Int → Int → Option (List ByteArray)
 | 0, _, _, _, _ => none
 | k + 1, x0, x5, x6, x8 => if x8 < x6 then ((J6.f k x0 x8).bind fun t452 => (if x5.length < 8796093022208 then (Jl.l1 k x0 (x5 ++ [t452]) x6 (wrap64 (x8 + 1))) else (none))) else (some x5)
end
def Jl.f (k : Nat) (a0 : ByteArray) (a1 : Int) : Option (List ByteArray) := Jl.l0 k a0 a1 1 0
set_option maxHeartbeats 64000000 in
set_option maxRecDepth 100000 in
theorem Jl.calls (k : Nat) (a0 : ByteArray) (a1 : Int) (r : List ByteArray) (w : World) (h : Jl.f k a0 a1 = some r) :
 Calls Tryz.prog 39 #[.string a0, .int .i64 a1] w fun e w' => ∃ v0_ : Value, e = .returned (v0_) ∧ Kd.R Kd.string 9 w' w.heap.size (fun _ => True) v0_ r ∧ Below w.heap.size w w' := by
 have HB := Aside0.mk (Below.refl w.heap.size w)
 have H : (Jl.l0 k a0 a1 1 0) = some r := h
 clear h
 have H' := Aside0.mk H
 clear H
 go_enter Tryz.func39, Tryz.ntmps39
 go_wp2
 go_loopg [6, 7] k (fun kq v6 v7 w' => ∃ (x6_1 : Int) (x7_1 : Int), v6 = .int .i64 x6_1 ∧ v7 = .int .i64 x7_1 ∧ Aside0 (Jl.l0 kq a0 a1 x6_1 x7_1 = some r) ∧ Aside0 (kq ≤ k) ∧ Aside0 (Below w.heap.size w w'))
 case atStart => exact ⟨(1), (0), vq_, vq_, H', ⟨Nat.le_refl _⟩, ⟨bl_⟩⟩
 case round =>
  clear H'
  obtain ⟨x6_1, x7_1, rfl, rfl, HA, HK1, HB⟩ := hrel
  cases gk with
  | zero => exact absurd HA.out (by simp [Jl.l0])
  | succ k1 =>
   have H := HA.out
   clear HA
   simp only [Jl.l0] at H
   by_cases c3 : x7_1 < a1
   ·rw [if_pos c3] at H
    have c3b0 : decide (x7_1 < a1) = true := decide_eq_true c3
    clear c3
    have H' := Aside0.mk H
    clear H
    go_wp2
    go_roundg k1
    case measure => have := HK1.out; omega
    case rel => exact ⟨(wrap64 (2 * x6_1)), (wrap64 (x7_1 + 1)), vq_, vq_, H', ⟨by have := HK1.out; omega⟩, ⟨bl_⟩⟩
   rw [if_neg c3] at H
   have c3b0 : decide (x7_1 < a1) = false := decide_eq_false c3
   clear c3
   have H' := Aside0.mk H
   clear H
   go_wp2
   go_loopg [5, 8] k1 (fun kq v5 v8 w' => ∃ (x5_2 : List ByteArray) (x8_2 : Int), v8 = .int .i64 x8_2 ∧ Aside0 (Jl.l1 kq a0 x5_2 x6_1 x8_2 = some r) ∧ Aside0 (kq ≤ k1) ∧ Aside0 (Kd.R Kd.string 9 w' w.heap.size (fun _ => True) v5 x5_2) ∧ Aside0 (Below w.heap.size w w'))
   case atStart => exact ⟨(([] : List ByteArray)), (0), vq_, H', ⟨Nat.le_refl _⟩, ⟨by first | exact Kd.R_nil _ _ _ _ _ | exact Kd.N_nil _ _ _ _ _ | exact Kd.V_nil _ _ _ _ _ | exact Kd.Q_nil _ _ _ _ _ | exact Kd.S_nil _ _ _ _ _⟩, ⟨bl_⟩⟩
   case round =>
    clear H'
    clear c3b0
    obtain ⟨x5_2, x8_2, rfl, HA, HK2, HO_5, HB⟩ := hrel
    cases gk with
    | zero => exact absurd HA.out (by simp [Jl.l1])
    | succ k2 =>
     have H := HA.out
     clear HA
     simp only [Jl.l1] at H
     by_cases c4 : x8_2 < x6_1
     ·rw [if_pos c4] at H
      have c4b0 : decide (x8_2 < x6_1) = true := decide_eq_true c4
      clear c4
      revert H; refine oa_ fun t452 A5 => nc_ fun c6 H => ?_
      have LMc6 := Aside0.mk c6
      clear c6
      generalize e_ : (x5_2 ++ [t452] : List ByteArray) = y453 at H
      have Ny453 := Aside0.mk e_.symm
      clear e_
      have H' := Aside0.mk H
      clear H
      go_wp2_with (first | ((with_reducible refine gate_callee (f := 64) rfl ?_); refine gL_ 24 Tryz.func64 #[.string a0, .int .i64 x8_2] ?_; (with_reducible refine (J6.calls k2 a0 x8_2 t452 _ A5.out).mono ?_); rintro e w7 ⟨rfl, hb⟩; refine ⟨_, rfl, ?_⟩; replace HB := Aside0.mk (below_step bl_ hb); replace HO_5 := Aside0.mk (Kd.R_below (mv_ HO_5.out) hb); clear hb) | ((with_reducible refine gate_builtin (b := .append) (xs := #[.tmp 21, .tmp 25]) rfl ?_); at_builtin; refine Kd.R_append Kd.string (w0 := w) w.heap.size rfl (.tmp 21) (.tmp 25) 22 9 (.string ⟨#[]⟩) 16 rfl Tryz.underlying22 info9 rfl (by decide) (by omega) u5 x5_2 t452 [.string t452] (fun _ => True) (fun _ => False) rfl rfl ?aP (fun _ hk => hk.elim) ?aF ?aO ?aB ?aS ?aL ?_; (case aP => exact rfl); (case aB => exact bl_); (case aF => exact (fun _ _ => trivial)); (case aO => exact (mv_ HO_5.out)); (case aS => exact (below_size bl_)); (case aL => have := LMc6.out; omega); intro v454 w8 ho hb hg hat; rw [← Ny453.out] at ho; have HO455 := Aside0.mk (ho); replace HB := Aside0.mk (hb); clear HO_5; clear ho hb hg hat))
      go_roundg k2
      case measure => have := HK1.out; have := HK2.out; omega
      case rel => exact ⟨(y453), (wrap64 (x8_2 + 1)), vq_, H', ⟨by have := HK1.out; have := HK2.out; omega⟩, ⟨mv_ HO455.out⟩, ⟨bl_⟩⟩
     rw [if_neg c4] at H
     have c4b0 : decide (x8_2 < x6_1) = false := decide_eq_false c4
     clear c4
     obtain rfl := Option.some.inj H
     go_wp2
     go_ret
     exact ⟨_, er_, mv_ HO_5.out, bl_⟩

/-! ### Uk = palaverref05_Public: function 15 -/
def Uk.f (k : Nat) (a0 : ByteArray) (a1 : Int) : Option (ByteArray) := (Jl.f k a0 a1).bind fun t456 => ((Ut.f k t456).bind fun t459 => ((Uj.f k a1 t459).bind fun t460 => (some t460)))
set_option maxHeartbeats 64000000 in
set_option maxRecDepth 100000 in
theorem Uk.calls (k : Nat) (a0 : ByteArray) (a1 : Int) (r : ByteArray) (w : World) (h : Uk.f k a0 a1 = some r) :
 Calls Tryz.prog 15 #[.string a0, .int .i64 a1] w fun e w' => e = .returned (.string r) ∧ Below w.heap.size w w' := by
 have HB := Aside0.mk (Below.refl w.heap.size w)
 have H : ((Jl.f k a0 a1).bind fun t456 => ((Ut.f k t456).bind fun t459 => ((Uj.f k a1 t459).bind fun t460 => (some t460)))) = some r := h
 clear h
 revert H; refine oa_ fun t456 A3 => oa_ fun t459 A4 => oa_ fun t460 A5 H => ?_
 obtain rfl := Option.some.inj H
 go_enter Tryz.func15, Tryz.ntmps15
 go_wp2_with (first | ((with_reducible refine gate_callee (f := 39) rfl ?_); refine gL_ 8 Tryz.func39 #[.string a0, .int .i64 a1] ?_; (with_reducible refine (Jl.calls k a0 a1 t456 _ A3.out).mono ?_); rintro e w6 ⟨v457, rfl, ho0, hb⟩; refine ⟨_, rfl, ?_⟩; have HO458 := Aside0.mk (Kd.R_lower ho0 (below_size bl_)); replace HB := Aside0.mk (below_step bl_ hb); clear hb ho0; obtain ⟨Ao7, co7, eo7⟩ := Kd.R_slice HO458.out; subst eo7) | ((with_reducible refine gate_callee (f := 38) rfl ?_); refine gL_ 9 Tryz.func38 #[.slice Ao7 t456.length co7] ?_; (with_reducible refine (Ut.calls k _ _ t456 t459 _ ?side1 ?side2 A4.out).mono ?_); (case side1 => repeat (first | exact (Kd.R_reads' HO458.out).2.2 | (with_reducible refine Kd.C_alloc ?_ _) | (with_reducible refine Kd.C_drewN ?_ _) | (with_reducible refine Kd.C_drew ?_))); (case side2 => exact (Kd.R_reads' HO458.out).2.1); rintro e w8 ⟨rfl, hb⟩; refine ⟨_, rfl, ?_⟩; replace HB := Aside0.mk (below_step bl_ hb); replace HO458 := Aside0.mk (Kd.R_below (mv_ HO458.out) hb); clear hb) | ((with_reducible refine gate_callee (f := 35) rfl ?_); refine gL_ 10 Tryz.func35 #[.int .i64 a1, .string t459] ?_; (with_reducible refine (Uj.calls k a1 t459 t460 _ A5.out).mono ?_); rintro e w9 ⟨rfl, hb⟩; refine ⟨_, rfl, ?_⟩; replace HB := Aside0.mk (below_step bl_ hb); replace HO458 := Aside0.mk (Kd.R_below (mv_ HO458.out) hb); clear hb))
 go_ret
 exact ⟨er_, bl_⟩

/-! ### Jk = palaverref06_Same: function 16 -/
mutual
def Jk.j0 : Nat → Bool → Int → ByteArray → List ByteArray → ByteArray → ByteArray → Int → ByteArray → List ByteArray → ByteArray → ByteArray → Option (Bool)
 | 0, _, _, _, _, _, _, _, _, _, _, _ => none
 | k + 1, x40, x462000, x462001, x462002, x462003, x462004, x463000, x463001, x463002, x463003, x463004 => if x40 = true then (some false) else (Jk.l0 k 0 x462000 x462001 x462002 x462003 x462004 x463000 x463001 x463002 x463003 x463004)
def Jk.l0 : Nat → Int → Int → ByteArray → List ByteArray → ByteArray → ByteArray → Int → ByteArray → List ByteArray → ByteArray → ByteArray → Option (Bool)
 | 0, _, _, _, _, _, _, _, _, _, _, _ => none
 | k + 1, x5, x462000, x462001, x462002, x462003, x462004, x463000, x463001, x463002, x463003, x463004 => if x5 < (x462002.length : Int) then (if 0 ≤ x5 then (if x5 < (x463002.length : Int) then (if (rdOf ByteArray.empty x462002 x5).toList = (rdOf ByteArray.empty x463002 x5).toList then (Jk.l0 k (wrap64 (x5 + 1)) x462000 x462001 x462002 x462003 x462004 x463000 x463001 x463002 x463003 x463004) else (some false)) else (none)) else (none)) else (some true)
end
def Jk.f (k : Nat) (a0_0 : Int) (a0_1 : ByteArray) (l0_2 : List ByteArray) (a0_3 : ByteArray) (a0_4 : ByteArray) (a1_0 : Int) (a1_1 : ByteArray) (l1_2 : List ByteArray) (a1_3 : ByteArray) (a1_4 : ByteArray) : Option (Bool) := if a0_0 = a1_0 then (if a0_1.toList = a1_1.toList then (if a0_3.toList = a1_3.toList then (if a0_4.toList = a1_4.toList then (Jk.j0 k ((l0_2.length : Int) != (l1_2.length : Int)) a0_0 a0_1 l0_2 a0_3 a0_4 a1_0 a1_1 l1_2 a1_3 a1_4) else (Jk.j0 k true a0_0 a0_1 l0_2 a0_3 a0_4 a1_0 a1_1 l1_2 a1_3 a1_4)) else (Jk.j0 k true a0_0 a0_1 l0_2 a0_3 a0_4 a1_0 a1_1 l1_2 a1_3 a1_4)) else (Jk.j0 k true a0_0 a0_1 l0_2 a0_3 a0_4 a1_0 a1_1 l1_2 a1_3 a1_4)) else (Jk.j0 k true a0_0 a0_1 l0_2 a0_3 a0_4 a1_0 a1_1 l1_2 a1_3 a1_4)
set_option maxHeartbeats 64000000 in
set_option maxRecDepth 100000 in
theorem Jk.calls (k : Nat) (a0_0 : Int) (a0_1 : ByteArray) (A0_2 : Option Addr) (c0_2 : Nat) (l0_2 : List ByteArray) (a0_3 : ByteArray) (a0_4 : ByteArray) (a1_0 : Int) (a1_1 : ByteArray) (A1_2 : Option Addr) (c1_2 : Nat) (l1_2 : List ByteArray) (a1_3 : ByteArray) (a1_4 : ByteArray) (r : Bool) (w : World) (hr0_2 : Kd.C Kd.string w A0_2 l0_2.length l0_2) (hc0_2 : l0_2.length ≤ c0_2) (hr1_2 : Kd.C Kd.string w A1_2 l1_2.length l1_2) (hc1_2 : l1_2.length ≤ c1_2) (h : Jk.f k a0_0 a0_1 l0_2 a0_3 a0_4 a1_0 a1_1 l1_2 a1_3 a1_4 = some r) :
 Calls Tryz.prog 16 #[.agg #[.int .i64 a0_0, .string a0_1, .slice A0_2 l0_2.length c0_2, .string a0_3, .string a0_4], .agg #[.int .i64 a1_0, .string a1_1, .slice A1_2 l1_2.length c1_2, .string a1_3, .string a1_4]] w fun e w' => e = .returned (.bool r) ∧ Below w.heap.size w w' := by
 have hu24 := Tryz.underlying24
 have HR0_2 := Aside0.mk hr0_2
 have HC0_2 := Aside0.mk hc0_2
 clear hr0_2 hc0_2
 have HR1_2 := Aside0.mk hr1_2
 have HC1_2 := Aside0.mk hc1_2
 clear hr1_2 hc1_2
 have HB := Aside0.mk (Below.refl w.heap.size w)
 have H : (if a0_0 = a1_0 then (if a0_1.toList = a1_1.toList then (if a0_3.toList = a1_3.toList then (if a0_4.toList = a1_4.toList then (Jk.j0 k ((l0_2.length : Int) != (l1_2.length : Int)) a0_0 a0_1 l0_2 a0_3 a0_4 a1_0 a1_1 l1_2 a1_3 a1_4) else (Jk.j0 k true a0_0 a0_1 l0_2 a0_3 a0_4 a1_0 a1_1 l1_2 a1_3 a1_4)) else (Jk.j0 k true a0_0 a0_1 l0_2 a0_3 a0_4 a1_0 a1_1 l1_2 a1_3 a1_4)) else (Jk.j0 k true a0_0 a0_1 l0_2 a0_3 a0_4 a1_0 a1_1 l1_2 a1_3 a1_4)) else (Jk.j0 k true a0_0 a0_1 l0_2 a0_3 a0_4 a1_0 a1_1 l1_2 a1_3 a1_4)) = some r := h
 clear h
 have HC3 := Aside0.mk H
 clear H
 go_enter Tryz.func16, Tryz.ntmps16
 go_upto_region 1 with (first | ((with_reducible refine gate_dst (N := 2) rfl ?_); ((refine gate_guard (by rfl) ?_; dsimp only)); refine box_event ?hg (N := 2) ?hd (cs := #[.int .i64 a0_0, .string a0_1, .slice A0_2 l0_2.length c0_2, .string a0_3, .string a0_4]) (t := 24) ?hr ?_; (case hd => rfl); (case hg => rfl); (case hr => exact gr_); intro gb461 hg w4 hbox hb; have GE461 := Aside0.mk ((by rw [hg]; exact (below_size bl_) : w.heap.size ≤ gb461)); have GW461 := Aside0.mk ((by rw [hg]; exact (below_size bl_) : w.heap.size ≤ gb461)); have BK461 := Aside0.mk (hbox); replace HB := Aside0.mk (below_step bl_ hb); clear hb hbox hg) | ((with_reducible refine gate_dst (N := 3) rfl ?_); ((refine gate_guard (by rfl) ?_; dsimp only)); refine box_event ?hg (N := 3) ?hd (cs := #[.int .i64 a1_0, .string a1_1, .slice A1_2 l1_2.length c1_2, .string a1_3, .string a1_4]) (t := 24) ?hr ?_; (case hd => rfl); (case hg => rfl); (case hr => exact gr_); intro gb462 hg w5 hbox hb; have NB462_461 := Aside0.mk ((by rw [hg]; exact Nat.ne_of_gt (blk_lt (g := gb461) (o := .cells #[.int .i64 a0_0, .string a0_1, .slice A0_2 l0_2.length c0_2, .string a0_3, .string a0_4] 24 (0, 0)) (mb_ BK461.out)) : gb462 ≠ gb461)); have NB461_462 := Aside0.mk ((by rw [hg]; exact Nat.ne_of_lt (blk_lt (g := gb461) (o := .cells #[.int .i64 a0_0, .string a0_1, .slice A0_2 l0_2.length c0_2, .string a0_3, .string a0_4] 24 (0, 0)) (mb_ BK461.out)) : gb461 ≠ gb462)); have GE462 := Aside0.mk ((by rw [hg]; exact (below_size (bs_ GE461.out)) : w.heap.size ≤ gb462)); have GW462 := Aside0.mk ((by rw [hg]; exact (below_size (bs_ GE461.out)) : w.heap.size ≤ gb462)); have BK462 := Aside0.mk (hbox); replace HB := Aside0.mk (below_step (bs_ GE461.out) hb); replace BK461 := Aside0.mk (blk_below (g := gb461) (o := .cells #[.int .i64 a0_0, .string a0_1, .slice A0_2 l0_2.length c0_2, .string a0_3, .string a0_4] 24 (0, 0)) (mb_ BK461.out) hb); clear hb hbox hg))
 repeat (go_quiet (first | ((with_reducible refine gate_dst (N := 2) rfl ?_); (try (refine gate_guard (by rfl) ?_; dsimp only)); refine box_event ?hg (N := 2) ?hd (cs := #[.int .i64 a0_0, .string a0_1, .slice A0_2 l0_2.length c0_2, .string a0_3, .string a0_4]) (t := 24) ?hr ?_; (case hd => rfl); (case hg => rfl); (case hr => exact gr_); intro gb461 hg w4 hbox hb; have GE461 := Aside0.mk ((by rw [hg]; exact (below_size bl_) : w.heap.size ≤ gb461)); have GW461 := Aside0.mk ((by rw [hg]; exact (below_size bl_) : w.heap.size ≤ gb461)); have BK461 := Aside0.mk (hbox); replace HB := Aside0.mk (below_step bl_ hb); clear hb hbox hg) | ((with_reducible refine gate_dst (N := 3) rfl ?_); (try (refine gate_guard (by rfl) ?_; dsimp only)); refine box_event ?hg (N := 3) ?hd (cs := #[.int .i64 a1_0, .string a1_1, .slice A1_2 l1_2.length c1_2, .string a1_3, .string a1_4]) (t := 24) ?hr ?_; (case hd => rfl); (case hg => rfl); (case hr => exact gr_); intro gb462 hg w5 hbox hb; have NB462_461 := Aside0.mk ((by rw [hg]; exact Nat.ne_of_gt (blk_lt (g := gb461) (o := .cells #[.int .i64 a0_0, .string a0_1, .slice A0_2 l0_2.length c0_2, .string a0_3, .string a0_4] 24 (0, 0)) (mb_ BK461.out)) : gb462 ≠ gb461)); have NB461_462 := Aside0.mk ((by rw [hg]; exact Nat.ne_of_lt (blk_lt (g := gb461) (o := .cells #[.int .i64 a0_0, .string a0_1, .slice A0_2 l0_2.length c0_2, .string a0_3, .string a0_4] 24 (0, 0)) (mb_ BK461.out)) : gb461 ≠ gb462)); have GE462 := Aside0.mk ((by rw [hg]; exact (below_size (bs_ GE461.out)) : w.heap.size ≤ gb462)); have GW462 := Aside0.mk ((by rw [hg]; exact (below_size (bs_ GE461.out)) : w.heap.size ≤ gb462)); have BK462 := Aside0.mk (hbox); replace HB := Aside0.mk (below_step (bs_ GE461.out) hb); replace BK461 := Aside0.mk (blk_below (g := gb461) (o := .cells #[.int .i64 a0_0, .string a0_1, .slice A0_2 l0_2.length c0_2, .string a0_3, .string a0_4] 24 (0, 0)) (mb_ BK461.out) hb); clear hb hbox hg)); go_upto_region 1 with (first | ((with_reducible refine gate_dst (N := 2) rfl ?_); (try (refine gate_guard (by rfl) ?_; dsimp only)); refine box_event ?hg (N := 2) ?hd (cs := #[.int .i64 a0_0, .string a0_1, .slice A0_2 l0_2.length c0_2, .string a0_3, .string a0_4]) (t := 24) ?hr ?_; (case hd => rfl); (case hg => rfl); (case hr => exact gr_); intro gb461 hg w4 hbox hb; have GE461 := Aside0.mk ((by rw [hg]; exact (below_size bl_) : w.heap.size ≤ gb461)); have GW461 := Aside0.mk ((by rw [hg]; exact (below_size bl_) : w.heap.size ≤ gb461)); have BK461 := Aside0.mk (hbox); replace HB := Aside0.mk (below_step bl_ hb); clear hb hbox hg) | ((with_reducible refine gate_dst (N := 3) rfl ?_); (try (refine gate_guard (by rfl) ?_; dsimp only)); refine box_event ?hg (N := 3) ?hd (cs := #[.int .i64 a1_0, .string a1_1, .slice A1_2 l1_2.length c1_2, .string a1_3, .string a1_4]) (t := 24) ?hr ?_; (case hd => rfl); (case hg => rfl); (case hr => exact gr_); intro gb462 hg w5 hbox hb; have NB462_461 := Aside0.mk ((by rw [hg]; exact Nat.ne_of_gt (blk_lt (g := gb461) (o := .cells #[.int .i64 a0_0, .string a0_1, .slice A0_2 l0_2.length c0_2, .string a0_3, .string a0_4] 24 (0, 0)) (mb_ BK461.out)) : gb462 ≠ gb461)); have NB461_462 := Aside0.mk ((by rw [hg]; exact Nat.ne_of_lt (blk_lt (g := gb461) (o := .cells #[.int .i64 a0_0, .string a0_1, .slice A0_2 l0_2.length c0_2, .string a0_3, .string a0_4] 24 (0, 0)) (mb_ BK461.out)) : gb461 ≠ gb462)); have GE462 := Aside0.mk ((by rw [hg]; exact (below_size (bs_ GE461.out)) : w.heap.size ≤ gb462)); have GW462 := Aside0.mk ((by rw [hg]; exact (below_size (bs_ GE461.out)) : w.heap.size ≤ gb462)); have BK462 := Aside0.mk (hbox); replace HB := Aside0.mk (below_step (bs_ GE461.out) hb); replace BK461 := Aside0.mk (blk_below (g := gb461) (o := .cells #[.int .i64 a0_0, .string a0_1, .slice A0_2 l0_2.length c0_2, .string a0_3, .string a0_4] 24 (0, 0)) (mb_ BK461.out) hb); clear hb hbox hg)))
 go_cut [40] (fun v40 wc => ∃ (kq : Nat) (x40_2 : Bool), v40 = .bool x40_2 ∧ Aside0 (Jk.j0 kq x40_2 a0_0 a0_1 l0_2 a0_3 a0_4 a1_0 a1_1 l1_2 a1_3 a1_4 = some r) ∧ Aside0 (kq ≤ k) ∧ Aside0 (wc.heap[gb461]? = some (.cells #[.int .i64 a0_0, .string a0_1, (.slice A0_2 l0_2.length c0_2), .string a0_3, .string a0_4] 24 (0, 0))) ∧ Aside0 (wc.heap[gb462]? = some (.cells #[.int .i64 a1_0, .string a1_1, (.slice A1_2 l1_2.length c1_2), .string a1_3, .string a1_4] 24 (0, 0))) ∧ Aside0 (Below w.heap.size w wc))
 case first =>
  have H := HC3.out
  clear HC3
  by_cases c6 : a0_0 = a1_0
  ·rw [if_pos c6] at H
   have c6b0 : (a0_0 == a1_0) = true := beq_iff_eq.mpr c6
   have c6b1 : (a0_0 != a1_0) = false := bne_eq_false_iff_eq.mpr c6
   clear c6
   (first | rw [c6b0] | (simp only [i64_w, i32_w]; rw [c6b0]) | skip)
   by_cases c7 : a0_1.toList = a1_1.toList
   ·rw [if_pos c7] at H
    have c7b0 : (a0_1.toList == a1_1.toList) = true := beq_iff_eq.mpr c7
    have c7b1 : (a0_1.toList != a1_1.toList) = false := bne_eq_false_iff_eq.mpr c7
    clear c7
    by_cases c8 : a0_3.toList = a1_3.toList
    ·rw [if_pos c8] at H
     have c8b0 : (a0_3.toList == a1_3.toList) = true := beq_iff_eq.mpr c8
     have c8b1 : (a0_3.toList != a1_3.toList) = false := bne_eq_false_iff_eq.mpr c8
     clear c8
     by_cases c9 : a0_4.toList = a1_4.toList
     ·rw [if_pos c9] at H
      have c9b0 : (a0_4.toList == a1_4.toList) = true := beq_iff_eq.mpr c9
      have c9b1 : (a0_4.toList != a1_4.toList) = false := bne_eq_false_iff_eq.mpr c9
      clear c9
      have H' := Aside0.mk H
      clear H
      have hnb10 := NB461_462.out
      have hnc10 := NB462_461.out
      obtain ⟨hcz11_0, hcz11_1, hcz11_2, hcz11_3, hcz11_4⟩ := c5_ BK461.out
      obtain ⟨hfz11_0, hfz11_1, hfz11_2, hfz11_3, hfz11_4⟩ := f5_ BK461.out
      obtain ⟨hcz12_0, hcz12_1, hcz12_2, hcz12_3, hcz12_4⟩ := c5_ BK462.out
      obtain ⟨hfz12_0, hfz12_1, hfz12_2, hfz12_3, hfz12_4⟩ := f5_ BK462.out
      go_wp2
      repeat (go_quiet (fail); try go_wp2)
      go_meet
      case rel => exact ⟨_, (((l0_2.length : Int) != (l1_2.length : Int))), vq_, H', ⟨by first | omega | exact Nat.le_refl _⟩, ⟨mb_ BK461.out⟩, ⟨mb_ BK462.out⟩, ⟨bs2_ GE461.out GE462.out⟩⟩
     rw [if_neg c9] at H
     have c9b0 : (a0_4.toList == a1_4.toList) = false := beq_eq_false_iff_ne.mpr c9
     have c9b1 : (a0_4.toList != a1_4.toList) = true := bne_iff_ne.mpr c9
     have H' := Aside0.mk H
     clear H
     have hnb13 := NB461_462.out
     have hnc13 := NB462_461.out
     obtain ⟨hcz14_0, hcz14_1, hcz14_2, hcz14_3, hcz14_4⟩ := c5_ BK461.out
     obtain ⟨hfz14_0, hfz14_1, hfz14_2, hfz14_3, hfz14_4⟩ := f5_ BK461.out
     obtain ⟨hcz15_0, hcz15_1, hcz15_2, hcz15_3, hcz15_4⟩ := c5_ BK462.out
     obtain ⟨hfz15_0, hfz15_1, hfz15_2, hfz15_3, hfz15_4⟩ := f5_ BK462.out
     go_wp2
     repeat (go_quiet (fail); try go_wp2)
     go_meet
     case rel => exact ⟨_, (true), vq_, H', ⟨by first | omega | exact Nat.le_refl _⟩, ⟨mb_ BK461.out⟩, ⟨mb_ BK462.out⟩, ⟨bs2_ GE461.out GE462.out⟩⟩
    rw [if_neg c8] at H
    have c8b0 : (a0_3.toList == a1_3.toList) = false := beq_eq_false_iff_ne.mpr c8
    have c8b1 : (a0_3.toList != a1_3.toList) = true := bne_iff_ne.mpr c8
    have H' := Aside0.mk H
    clear H
    have hnb16 := NB461_462.out
    have hnc16 := NB462_461.out
    obtain ⟨hcz17_0, hcz17_1, hcz17_2, hcz17_3, hcz17_4⟩ := c5_ BK461.out
    obtain ⟨hfz17_0, hfz17_1, hfz17_2, hfz17_3, hfz17_4⟩ := f5_ BK461.out
    obtain ⟨hcz18_0, hcz18_1, hcz18_2, hcz18_3, hcz18_4⟩ := c5_ BK462.out
    obtain ⟨hfz18_0, hfz18_1, hfz18_2, hfz18_3, hfz18_4⟩ := f5_ BK462.out
    go_wp2
    repeat (go_quiet (fail); try go_wp2)
    go_meet
    case rel => exact ⟨_, (true), vq_, H', ⟨by first | omega | exact Nat.le_refl _⟩, ⟨mb_ BK461.out⟩, ⟨mb_ BK462.out⟩, ⟨bs2_ GE461.out GE462.out⟩⟩
   rw [if_neg c7] at H
   have c7b0 : (a0_1.toList == a1_1.toList) = false := beq_eq_false_iff_ne.mpr c7
   have c7b1 : (a0_1.toList != a1_1.toList) = true := bne_iff_ne.mpr c7
   have H' := Aside0.mk H
   clear H
   have hnb19 := NB461_462.out
   have hnc19 := NB462_461.out
   obtain ⟨hcz20_0, hcz20_1, hcz20_2, hcz20_3, hcz20_4⟩ := c5_ BK461.out
   obtain ⟨hfz20_0, hfz20_1, hfz20_2, hfz20_3, hfz20_4⟩ := f5_ BK461.out
   obtain ⟨hcz21_0, hcz21_1, hcz21_2, hcz21_3, hcz21_4⟩ := c5_ BK462.out
   obtain ⟨hfz21_0, hfz21_1, hfz21_2, hfz21_3, hfz21_4⟩ := f5_ BK462.out
   go_wp2
   repeat (go_quiet (fail); try go_wp2)
   go_meet
   case rel => exact ⟨_, (true), vq_, H', ⟨by first | omega | exact Nat.le_refl _⟩, ⟨mb_ BK461.out⟩, ⟨mb_ BK462.out⟩, ⟨bs2_ GE461.out GE462.out⟩⟩
  rw [if_neg c6] at H
  have c6b0 : (a0_0 == a1_0) = false := beq_eq_false_iff_ne.mpr c6
  have c6b1 : (a0_0 != a1_0) = true := bne_iff_ne.mpr c6
  (first | rw [c6b0] | (simp only [i64_w, i32_w]; rw [c6b0]) | skip)
  have H' := Aside0.mk H
  clear H
  have hnb22 := NB461_462.out
  have hnc22 := NB462_461.out
  obtain ⟨hcz23_0, hcz23_1, hcz23_2, hcz23_3, hcz23_4⟩ := c5_ BK461.out
  obtain ⟨hfz23_0, hfz23_1, hfz23_2, hfz23_3, hfz23_4⟩ := f5_ BK461.out
  obtain ⟨hcz24_0, hcz24_1, hcz24_2, hcz24_3, hcz24_4⟩ := c5_ BK462.out
  obtain ⟨hfz24_0, hfz24_1, hfz24_2, hfz24_3, hfz24_4⟩ := f5_ BK462.out
  go_wp2
  repeat (go_quiet (fail); try go_wp2)
  go_meet
  case rel => exact ⟨_, (true), vq_, H', ⟨by first | omega | exact Nat.le_refl _⟩, ⟨mb_ BK461.out⟩, ⟨mb_ BK462.out⟩, ⟨bs2_ GE461.out GE462.out⟩⟩
 case rest =>
  clear HC3
  obtain ⟨kq, x40_2, rfl, HA, HJ2, BK461, BK462, HB⟩ := hcut
  cases kq with
  | zero => exact absurd HA.out (by simp [Jk.j0])
  | succ kj2 =>
   have H := HA.out
   clear HA
   simp only [Jk.j0] at H
   by_cases c25 : x40_2 = true
   ·subst c25
    have H1 : (some false) = some r := by rw [if_pos rfl] at H; exact H
    clear H
    have H := H1
    clear H1
    obtain rfl := Option.some.inj H
    go_wp2
    repeat (go_quiet (fail); try go_wp2)
    go_ret
    exact ⟨er_, bs2_ GE461.out GE462.out⟩
   replace c25 := Bool.eq_false_iff.mpr c25
   subst c25
   have H1 : (Jk.l0 kj2 0 a0_0 a0_1 l0_2 a0_3 a0_4 a1_0 a1_1 l1_2 a1_3 a1_4) = some r := by rw [if_neg (show ¬ (false = true) by decide)] at H; exact H
   clear H
   have H := H1
   clear H1
   have H' := Aside0.mk H
   clear H
   go_wp2
   repeat (go_quiet (fail); try go_wp2)
   go_loopg [5] kj2 (fun kq v5 w' => ∃ (x5_2 : Int), v5 = .int .i64 x5_2 ∧ Aside0 (Jk.l0 kq x5_2 a0_0 a0_1 l0_2 a0_3 a0_4 a1_0 a1_1 l1_2 a1_3 a1_4 = some r) ∧ Aside0 (kq ≤ kj2) ∧ Aside0 (w'.heap[gb461]? = some (.cells #[.int .i64 a0_0, .string a0_1, (.slice A0_2 l0_2.length c0_2), .string a0_3, .string a0_4] 24 (0, 0))) ∧ Aside0 (w'.heap[gb462]? = some (.cells #[.int .i64 a1_0, .string a1_1, (.slice A1_2 l1_2.length c1_2), .string a1_3, .string a1_4] 24 (0, 0))) ∧ Aside0 (Below w.heap.size w w'))
   case atStart => exact ⟨(0), vq_, H', ⟨Nat.le_refl _⟩, ⟨mb_ BK461.out⟩, ⟨mb_ BK462.out⟩, ⟨bs2_ GE461.out GE462.out⟩⟩
   case round =>
    clear H'
    obtain ⟨x5_2, rfl, HA, HK2, BK461, BK462, HB⟩ := hrel
    cases gk with
    | zero => exact absurd HA.out (by simp [Jk.l0])
    | succ k2 =>
     have H := HA.out
     clear HA
     simp only [Jk.l0] at H
     by_cases c26 : x5_2 < (l0_2.length : Int)
     ·rw [if_pos c26] at H
      have c26b0 : decide (x5_2 < (l0_2.length : Int)) = true := decide_eq_true c26
      clear c26
      revert H; refine nd_ fun c27 c27b0 => nd_ fun c28 c28b0 H => ?_
      clear c27 c28
      by_cases c29 : (rdOf ByteArray.empty l0_2 x5_2).toList = (rdOf ByteArray.empty l1_2 x5_2).toList
      ·rw [if_pos c29] at H
       have c29b0 : ((rdOf ByteArray.empty l0_2 x5_2).toList == (rdOf ByteArray.empty l1_2 x5_2).toList) = true := beq_iff_eq.mpr c29
       have c29b1 : ((rdOf ByteArray.empty l0_2 x5_2).toList != (rdOf ByteArray.empty l1_2 x5_2).toList) = false := bne_eq_false_iff_eq.mpr c29
       clear c29
       have H' := Aside0.mk H
       clear H
       have hnb30 := NB461_462.out
       have hnc30 := NB462_461.out
       obtain ⟨hcz31_0, hcz31_1, hcz31_2, hcz31_3, hcz31_4⟩ := c5_ BK461.out
       obtain ⟨hfz31_0, hfz31_1, hfz31_2, hfz31_3, hfz31_4⟩ := f5_ BK461.out
       have p463 : 0 ≤ (x5_2 : Int) := ae_
       have q463 : x5_2 < (l0_2.length : Int) := ae_
       obtain ⟨ad463, e463, hx463_0⟩ := Kd.at_string HR0_2.out x5_2 p463 q463
       cases e463
       replace hx463_0 := (HB.out.cell (World.block_lt_of_cell? w _ hx463_0)).trans hx463_0
       replace p463 := eq_true p463
       replace q463 := eq_true q463
       obtain ⟨hcz32_0, hcz32_1, hcz32_2, hcz32_3, hcz32_4⟩ := c5_ BK462.out
       obtain ⟨hfz32_0, hfz32_1, hfz32_2, hfz32_3, hfz32_4⟩ := f5_ BK462.out
       have p464 : 0 ≤ (x5_2 : Int) := ae_
       have q464 : x5_2 < (l1_2.length : Int) := ae_
       obtain ⟨ad464, e464, hx464_0⟩ := Kd.at_string HR1_2.out x5_2 p464 q464
       cases e464
       replace hx464_0 := (HB.out.cell (World.block_lt_of_cell? w _ hx464_0)).trans hx464_0
       replace p464 := eq_true p464
       replace q464 := eq_true q464
       go_wp2
       repeat (go_quiet (fail); try go_wp2)
       go_roundg k2
       case measure => have := HJ2.out; have := HK2.out; omega
       case rel => exact ⟨(wrap64 (x5_2 + 1)), vq_, H', ⟨by have := HJ2.out; have := HK2.out; omega⟩, ⟨mb_ BK461.out⟩, ⟨mb_ BK462.out⟩, ⟨bs2_ GE461.out GE462.out⟩⟩
      rw [if_neg c29] at H
      have c29b0 : ((rdOf ByteArray.empty l0_2 x5_2).toList == (rdOf ByteArray.empty l1_2 x5_2).toList) = false := beq_eq_false_iff_ne.mpr c29
      have c29b1 : ((rdOf ByteArray.empty l0_2 x5_2).toList != (rdOf ByteArray.empty l1_2 x5_2).toList) = true := bne_iff_ne.mpr c29
      obtain rfl := Option.some.inj H
      have hnb33 := NB461_462.out
      have hnc33 := NB462_461.out
      obtain ⟨hcz34_0, hcz34_1, hcz34_2, hcz34_3, hcz34_4⟩ := c5_ BK461.out
      obtain ⟨hfz34_0, hfz34_1, hfz34_2, hfz34_3, hfz34_4⟩ := f5_ BK461.out
      have p463 : 0 ≤ (x5_2 : Int) := ae_
      have q463 : x5_2 < (l0_2.length : Int) := ae_
      obtain ⟨ad463, e463, hx463_0⟩ := Kd.at_string HR0_2.out x5_2 p463 q463
      cases e463
      replace hx463_0 := (HB.out.cell (World.block_lt_of_cell? w _ hx463_0)).trans hx463_0
      replace p463 := eq_true p463
      replace q463 := eq_true q463
      obtain ⟨hcz35_0, hcz35_1, hcz35_2, hcz35_3, hcz35_4⟩ := c5_ BK462.out
      obtain ⟨hfz35_0, hfz35_1, hfz35_2, hfz35_3, hfz35_4⟩ := f5_ BK462.out
      have p464 : 0 ≤ (x5_2 : Int) := ae_
      have q464 : x5_2 < (l1_2.length : Int) := ae_
      obtain ⟨ad464, e464, hx464_0⟩ := Kd.at_string HR1_2.out x5_2 p464 q464
      cases e464
      replace hx464_0 := (HB.out.cell (World.block_lt_of_cell? w _ hx464_0)).trans hx464_0
      replace p464 := eq_true p464
      replace q464 := eq_true q464
      go_wp2
      repeat (go_quiet (fail); try go_wp2)
      go_ret
      exact ⟨er_, bs2_ GE461.out GE462.out⟩
     rw [if_neg c26] at H
     have c26b0 : decide (x5_2 < (l0_2.length : Int)) = false := decide_eq_false c26
     clear c26
     obtain rfl := Option.some.inj H
     have hnb36 := NB461_462.out
     have hnc36 := NB462_461.out
     obtain ⟨hcz37_0, hcz37_1, hcz37_2, hcz37_3, hcz37_4⟩ := c5_ BK461.out
     obtain ⟨hfz37_0, hfz37_1, hfz37_2, hfz37_3, hfz37_4⟩ := f5_ BK461.out
     go_wp2
     repeat (go_quiet (fail); try go_wp2)
     go_ret
     exact ⟨er_, bs2_ GE461.out GE462.out⟩

-- NOT PRINTED: function 17 (key_Key_Used)

/-! ### Jh = palaverref03_Digits: function 60 -/
mutual
def Jh.l0 : Nat → ByteArray → List Int → Int → Int → Option (List Int)
 | 0, _, _, _, _ => none
 | k + 1, x0, x3, x4, x5 => if x5 < (x0.size : Int) then (if 0 ≤ x5 then ((some (([wrap64 (Int.tdiv (wrap64 (bt x0 x5)) 16), Int.tmod (wrap64 (bt x0 x5)) 16] : List Int) : List Int)).bind fun y465 => (if x3.length + y465.length < 17592186044416 then (Jh.l0 k x0 (x3 ++ y465) x4 (wrap64 (x5 + 1))) else (none))) else (none)) else (Jh.l1 k x3 x4 0)
def Jh.l1 : Nat → List Int → Int → Int → Option (List Int)
 | 0, _, _, _ => none
 | k + 1, x3, x4, x6 => if x6 < (x3.length : Int) then (if 0 ≤ x6 then (Jh.l1 k x3 (wrap64 ((wrap64 (x4 + 15)) - (rd x3 x6))) (wrap64 (x6 + 1))) else (none)) else ((some (([wrap64 (Int.tdiv x4 256), Int.tmod (wrap64 (Int.tdiv x4 16)) 16, Int.tmod x4 16] : List Int) : List Int)).bind fun y472 => (if x3.length + y472.length < 17592186044416 then (some (x3 ++ y472)) else (none)))
end
def Jh.f (k : Nat) (a0 : ByteArray) : Option (List Int) := Jh.l0 k a0 ([] : List Int) 0 0
def Jh.T6 : Bool × List (List Nat × List Nat) := (true, [([], []), ([], []), ([], []), ([1, 2], [1, 2]), ([3], [3]), ([4], [4]), ([], []), ([], []), ([6, 7], [6, 7]), ([8], [8]), ([9], [9]), ([5, 10], [5, 10]), ([0, 11], [0, 11]), ([12, 12, 0, 1, 2, 3, 4, 5, 6, 7, 8, 9, 10, 11, 12], [0, 12])])
def Jh.B6 : List Nat := [0, 0, 0, 6, 14, 30, 0, 0, 192, 448, 960, 2046, 4095, 8191]
theorem Jh.tab6 : rtab .any (opsOf Tryz.f60 6) = Jh.T6 := by kernel_rfl
theorem Jh.bits6 : waitsOk Jh.T6.2 Jh.B6 = true := by kernel_rfl
set_option maxHeartbeats 64000000 in
set_option maxRecDepth 100000 in
theorem Jh.calls (k : Nat) (a0 : ByteArray) (r : List Int) (w : World) (h : Jh.f k a0 = some r) :
 Calls Tryz.prog 60 #[.string a0] w fun e w' => ∃ v0_ : Value, e = .returned (v0_) ∧ Kd.R (Kd.int .i64) 3 w' w.heap.size (fun _ => True) v0_ r ∧ Below w.heap.size w w' := by
 have HB := Aside0.mk (Below.refl w.heap.size w)
 have H : (Jh.l0 k a0 ([] : List Int) 0 0) = some r := h
 clear h
 have H' := Aside0.mk H
 clear H
 go_enter Tryz.func60, Tryz.ntmps60
 go_wp2
 go_loopg [3, 5] k (fun kq v3 v5 w' => ∃ (x3_1 : List Int) (x5_1 : Int), v5 = .int .i64 x5_1 ∧ Aside0 (Jh.l0 kq a0 x3_1 0 x5_1 = some r) ∧ Aside0 (kq ≤ k) ∧ Aside0 (Kd.R (Kd.int .i64) 3 w' w.heap.size (fun _ => True) v3 x3_1) ∧ Aside0 (Below w.heap.size w w'))
 case atStart => exact ⟨(([] : List Int)), (0), vq_, H', ⟨Nat.le_refl _⟩, ⟨by first | exact Kd.R_nil _ _ _ _ _ | exact Kd.N_nil _ _ _ _ _ | exact Kd.V_nil _ _ _ _ _ | exact Kd.Q_nil _ _ _ _ _ | exact Kd.S_nil _ _ _ _ _⟩, ⟨bl_⟩⟩
 case round =>
  clear H'
  obtain ⟨x3_1, x5_1, rfl, HA, HK1, HO_3, HB⟩ := hrel
  cases gk with
  | zero => exact absurd HA.out (by simp [Jh.l0])
  | succ k1 =>
   have H := HA.out
   clear HA
   simp only [Jh.l0] at H
   by_cases c2 : x5_1 < (a0.size : Int)
   ·rw [if_pos c2] at H
    have c2b0 : decide (x5_1 < (a0.size : Int)) = true := decide_eq_true c2
    clear c2
    revert H; refine nd_ fun c3 c3b0 => oy_ fun y465 Ny465 => nc_ fun c6 H => ?_
    have LMc6 := Aside0.mk c6
    clear c3 c6
    generalize e_ : (x3_1 ++ y465 : List Int) = y468 at H
    have Ny468 := Aside0.mk e_.symm
    clear e_
    have H' := Aside0.mk H
    clear H
    try go_wp2
    replace HB := Aside0.mk (below_drew1 HB.out)
    replace HO_3 := Aside0.mk (Kd.R_drew HO_3.out)
    have p4 := eq_true (ae_ : 0 ≤ (x5_1 : Int))
    have q4 := eq_true (ae_ : x5_1 < (a0.size : Int))
    have hx4 := bt_at a0 x5_1
    have p5 := eq_true (ae_ : 0 ≤ (x5_1 : Int))
    have q5 := eq_true (ae_ : x5_1 < (a0.size : Int))
    have hx5 := bt_at a0 x5_1
    refine sK_ 14 (fun w' => True) [] Jh.tab6 Jh.bits6 trivial fun hHeld HT_ HW_ => ?_
    generalize wr.drew = w7 at HO_3 HB hHeld ⊢
    refine runs_ [(0, some 13), (1, some 14), (2, some 15), (6, some 19), (7, some 20), (3, some 16), (4, some 17), (5, some 18), (8, some 21), (9, some 22), (10, some 23)] ?_
    (iterate 5 (refine pL_ ?_)); refine tL_ ?_; (iterate 2 (refine pL_ ?_)); refine tL_ ?_; (iterate 2 (refine pL_ ?_)); refine runsE_ ?_
    refine oK_ 11 (some 24) fun K hK => ?_
    refine Kd.R_lit_step (Kd.int .i64) _ 3 ?hg (N := 24) ?hd (xs := ([wrap64 (Int.tdiv (wrap64 (bt a0 x5_1)) 16), Int.tmod (wrap64 (bt a0 x5_1)) 16] : List Int)) (inner := [.int .i64 (wrap64 (Int.tdiv (wrap64 (bt a0 x5_1)) 16)), .int .i64 (Int.tmod (wrap64 (bt a0 x5_1)) 16)]) (ok := fun _ => True) (okp := fun _ => True) ?hr ?hp (fun _ hk => hk) trivial (Below.refl _ _) (Nat.le_refl _) (by simp) ?_; (case hd => rfl); (case hg => rfl); (case hr => exact gr_); (case hp => exact (Reps.one (show Kd.M (Kd.int .i64) _ _ _ (wrap64 (Int.tdiv (wrap64 (bt a0 x5_1)) 16)) [.int .i64 (wrap64 (Int.tdiv (wrap64 (bt a0 x5_1)) 16))] from rfl) (Reps.one (show Kd.M (Kd.int .i64) _ _ _ (Int.tmod (wrap64 (bt a0 x5_1)) 16) [.int .i64 (Int.tmod (wrap64 (bt a0 x5_1)) 16)] from rfl) (Reps.none _ _))))
    intro v466 w8 ho9 hb hg_ hnew_
    clear hg_ hnew_
    (first | rw [← Ny465.out] at ho9 | (simp only [Int.reduceToNat] at ho9; rw [← Ny465.out] at ho9))
    have HO467 := Aside0.mk (Kd.R_lower (Kd.R_new' ho9 (Kd.R_lt (mv_ HO_3.out))) (below_size bl_))
    replace HB := Aside0.mk (below_step bl_ hb)
    replace HO_3 := Aside0.mk (Kd.R_elder' (mv_ HO_3.out) (Kd.R_base ho9) hb)
    clear hb ho9
    obtain ⟨Ao11, co11, eo11⟩ := Kd.R_slice HO467.out
    (first | subst eo11 | (injection eo11 with f1_ f2_ f3_; have f4_ := f1_.symm; have f5_ := f3_.symm; clear f1_ f2_ f3_; subst f4_; subst f5_))
    refine hK.out _ _ trivial (fun hHeld => ?_)
    clear hK K
    refine nK_ (some 24) ?_
    refine oK_ 12 (some 25) fun K hK => ?_
    refine Kd.R_append_rows_step (Kd.int .i64) (w0 := w) w.heap.size (by rfl) (.tmp 13) (.tmp 24) 101 3 (.int .i64 0) 8 rfl Tryz.underlying101 info3 rfl (by decide) (by omega) u3 x3_1 y465 _ _ _ (fun k_ => some k_ ≠ (.slice Ao11 y465.length co11 : Value).ownBlock) (fun _ => False) rfl rfl ?aO ?aR (fun _ _ h => h) (fun _ h => h.elim) ?aF ?aB ?aS ?aL ?_
    (case aR => repeat (first | exact (Kd.R_reads' HO467.out).2.2 | (with_reducible refine Kd.C_alloc ?_ _) | (with_reducible refine Kd.C_drewN ?_ _) | (with_reducible refine Kd.C_drew ?_)))
    (case aB => exact bl_)
    (case aF => exact (fun k_ hk => Kd.fresh' (Kd.R_lt (mv_ HO467.out)) k_ hk))
    (case aO => exact (by refine mv_ ?_; exact Kd.R_mono HO_3.out (fun _ hk => hk.2)))
    (case aS => exact (below_size bl_))
    (case aL => have := LMc6.out; omega)
    intro v469 w10 ho hb hg hat
    rw [← Ny468.out] at ho
    have HO470 := Aside0.mk (ho)
    replace HB := Aside0.mk (hb)
    replace HO467 := Aside0.mk (Kd.R_after (ok := (fun _ => True)) (mv_ HO467.out) hg hat)
    clear HO_3
    clear ho hb hg hat
    refine hK.out _ _ trivial (fun hHeld => ?_)
    clear hK K
    refine nK_ (some 25) ?_
    refine pK_ 13 3 ?_
    refine dK_ ?_
    try go_wp2
    go_roundg k1
    case measure => have := HK1.out; omega
    case rel => exact ⟨(y468), (wrap64 (x5_1 + 1)), vq_, H', ⟨by have := HK1.out; omega⟩, ⟨by refine mv_ ?_; exact Kd.R_mono HO470.out (fun _ hk => trivial)⟩, ⟨bl_⟩⟩
   rw [if_neg c2] at H
   have c2b0 : decide (x5_1 < (a0.size : Int)) = false := decide_eq_false c2
   clear c2
   have H' := Aside0.mk H
   clear H
   go_wp2
   go_loopg [4, 6] k1 (fun kq v4 v6 w' => ∃ (x4_2 : Int) (x6_2 : Int), v4 = .int .i64 x4_2 ∧ v6 = .int .i64 x6_2 ∧ Aside0 (Jh.l1 kq x3_1 x4_2 x6_2 = some r) ∧ Aside0 (kq ≤ k1) ∧ Aside0 (Kd.R (Kd.int .i64) 3 w' w.heap.size (fun _ => True) u3 x3_1) ∧ Aside0 (Below w.heap.size w w'))
   case atStart => exact ⟨(0), (0), vq_, vq_, H', ⟨Nat.le_refl _⟩, ⟨mv_ HO_3.out⟩, ⟨bl_⟩⟩
   case round =>
    clear H'
    clear c2b0
    obtain ⟨x4_2, x6_2, rfl, rfl, HA, HK2, HO_3, HB⟩ := hrel
    cases gk with
    | zero => exact absurd HA.out (by simp [Jh.l1])
    | succ k2 =>
     have H := HA.out
     clear HA
     simp only [Jh.l1] at H
     by_cases c12 : x6_2 < (x3_1.length : Int)
     ·rw [if_pos c12] at H
      have c12b0 : decide (x6_2 < (x3_1.length : Int)) = true := decide_eq_true c12
      clear c12
      revert H; refine nd_ fun c13 c13b0 H => ?_
      clear c13
      have H' := Aside0.mk H
      clear H
      obtain ⟨Ao14, co14, eo14⟩ := Kd.R_slice HO_3.out
      subst eo14
      have p471 : 0 ≤ (x6_2 : Int) := ae_
      have q471 : x6_2 < (x3_1.length : Int) := ae_
      obtain ⟨ad471, e471, hx471_0⟩ := Kd.at_int (Kd.R_reads' HO_3.out).2.2 x6_2 p471 q471
      cases e471
      replace p471 := eq_true p471
      replace q471 := eq_true q471
      go_wp2
      go_roundg k2
      case measure => have := HK1.out; have := HK2.out; omega
      case rel => exact ⟨(wrap64 ((wrap64 (x4_2 + 15)) - (rd x3_1 x6_2))), (wrap64 (x6_2 + 1)), vq_, vq_, H', ⟨by have := HK1.out; have := HK2.out; omega⟩, ⟨mv_ HO_3.out⟩, ⟨bl_⟩⟩
     rw [if_neg c12] at H
     have c12b0 : decide (x6_2 < (x3_1.length : Int)) = false := decide_eq_false c12
     clear c12
     revert H; refine oy_ fun y472 Ny472 => nc_ fun c15 H => ?_
     have LMc15 := Aside0.mk c15
     clear c15
     generalize e_ : (x3_1 ++ y472 : List Int) = y475 at H
     have Ny475 := Aside0.mk e_.symm
     clear e_
     obtain rfl := Option.some.inj H
     obtain ⟨Ao16, co16, eo16⟩ := Kd.R_slice HO_3.out
     subst eo16
     go_wp2_with (first | ((with_reducible refine gate_dst (N := 47) rfl ?_); refine Kd.R_lit (Kd.int .i64) _ 3 ?hg (N := 47) ?hd (xs := ([wrap64 (Int.tdiv x4_2 256), Int.tmod (wrap64 (Int.tdiv x4_2 16)) 16, Int.tmod x4_2 16] : List Int)) (inner := [.int .i64 (wrap64 (Int.tdiv x4_2 256)), .int .i64 (Int.tmod (wrap64 (Int.tdiv x4_2 16)) 16), .int .i64 (Int.tmod x4_2 16)]) (ok := fun _ => True) (okp := fun _ => True) ?hr ?hp (fun _ hk => hk) trivial (Below.refl _ _) (Nat.le_refl _) (by simp) ?_; (case hd => rfl); (case hg => rfl); (case hr => exact gr_); (case hp => exact (Reps.one (show Kd.M (Kd.int .i64) _ _ _ (wrap64 (Int.tdiv x4_2 256)) [.int .i64 (wrap64 (Int.tdiv x4_2 256))] from rfl) (Reps.one (show Kd.M (Kd.int .i64) _ _ _ (Int.tmod (wrap64 (Int.tdiv x4_2 16)) 16) [.int .i64 (Int.tmod (wrap64 (Int.tdiv x4_2 16)) 16)] from rfl) (Reps.one (show Kd.M (Kd.int .i64) _ _ _ (Int.tmod x4_2 16) [.int .i64 (Int.tmod x4_2 16)] from rfl) (Reps.none _ _))))); intro v473 w17 ho18 hb hg_ hnew_; clear hg_ hnew_; (first | rw [← Ny472.out] at ho18 | (simp only [Int.reduceToNat] at ho18; rw [← Ny472.out] at ho18)); have HO474 := Aside0.mk (Kd.R_lower (Kd.R_new' ho18 (Kd.R_lt (mv_ HO_3.out))) (below_size bl_)); replace HB := Aside0.mk (below_step bl_ hb); replace HO_3 := Aside0.mk (Kd.R_elder' (mv_ HO_3.out) (Kd.R_base ho18) hb); clear hb ho18; obtain ⟨Ao20, co20, eo20⟩ := Kd.R_slice HO474.out; subst eo20) | ((with_reducible refine gate_builtin (b := .append) (xs := #[.tmp 39, .tmp 47]) rfl ?_); at_builtin; refine Kd.R_append_rows (Kd.int .i64) (w0 := w) w.heap.size rfl (.tmp 39) (.tmp 47) 101 3 (.int .i64 0) 8 rfl Tryz.underlying101 info3 rfl (by decide) (by omega) (.slice Ao16 x3_1.length co16) x3_1 y472 _ _ _ (fun k_ => some k_ ≠ (.slice Ao20 y472.length co20 : Value).ownBlock) (fun _ => False) rfl rfl ?aO ?aR (fun _ _ h => h) (fun _ h => h.elim) ?aF ?aB ?aS ?aL ?_; (case aR => repeat (first | exact (Kd.R_reads' HO474.out).2.2 | (with_reducible refine Kd.C_alloc ?_ _) | (with_reducible refine Kd.C_drewN ?_ _) | (with_reducible refine Kd.C_drew ?_))); (case aB => exact bl_); (case aF => exact (fun k_ hk => Kd.fresh' (Kd.R_lt (mv_ HO474.out)) k_ hk)); (case aO => exact (by refine mv_ ?_; exact Kd.R_mono HO_3.out (fun _ hk => hk.2))); (case aS => exact (below_size bl_)); (case aL => have := LMc15.out; omega); intro v476 w19 ho hb hg hat; rw [← Ny475.out] at ho; have HO477 := Aside0.mk (ho); replace HB := Aside0.mk (hb); replace HO474 := Aside0.mk (Kd.R_after (ok := (fun _ => True)) (mv_ HO474.out) hg hat); clear HO_3; clear ho hb hg hat))
     go_ret
     exact ⟨_, er_, by refine mv_ ?_; exact Kd.R_mono HO477.out (fun _ hk => trivial), bl_⟩

/-! ### Jq = palaverref03_Sign: function 41 -/
def Jq.l0 : Nat → ByteArray → Int → List Int → List ByteArray → Int → Option (List ByteArray)
 | 0, _, _, _, _, _ => none
 | k + 1, x0, x1, x7, x8, x9 => if x9 < 67 then ((Uf.f k x0 x1 x9).bind fun t481 => (if 0 ≤ x9 then (if x9 < (x7.length : Int) then ((Jx.f k x9 t481 (rd x7 x9)).bind fun t483 => (if x8.length < 8796093022208 then (Jq.l0 k x0 x1 x7 (x8 ++ [t483]) (wrap64 (x9 + 1))) else (none))) else (none)) else (none))) else (some x8)
def Jq.f (k : Nat) (a0 : ByteArray) (a1 : Int) (a2 : ByteArray) : Option (List ByteArray) := (Jh.f k a2).bind fun t478 => (Jq.l0 k a0 a1 t478 ([] : List ByteArray) 0)
def Jq.T6 : Bool × List (List Nat × List Nat) := (true, [([], []), ([], []), ([], []), ([], []), ([], []), ([2, 3, 4], [2, 3, 4]), ([], []), ([], []), ([6, 7], [6, 7]), ([8], [8]), ([1, 5, 9, 5], [1, 5, 9]), ([10], [10]), ([0, 11, 10], [0, 11]), ([12, 12, 0, 1, 2, 3, 4, 5, 6, 7, 8, 9, 10, 11, 12], [0, 12])])
def Jq.B6 : List Nat := [0, 0, 0, 0, 0, 28, 0, 0, 192, 448, 1022, 2046, 4095, 8191]
theorem Jq.tab6 : rtab .any (opsOf Tryz.f41 6) = Jq.T6 := by kernel_rfl
theorem Jq.bits6 : waitsOk Jq.T6.2 Jq.B6 = true := by kernel_rfl
set_option maxHeartbeats 64000000 in
set_option maxRecDepth 100000 in
theorem Jq.calls (k : Nat) (a0 : ByteArray) (a1 : Int) (a2 : ByteArray) (r : List ByteArray) (w : World) (h : Jq.f k a0 a1 a2 = some r) :
 Calls Tryz.prog 41 #[.string a0, .int .i64 a1, .string a2] w fun e w' => ∃ v0_ : Value, e = .returned (v0_) ∧ Kd.R Kd.string 9 w' w.heap.size (fun _ => True) v0_ r ∧ Below w.heap.size w w' := by
 have HB := Aside0.mk (Below.refl w.heap.size w)
 have H : ((Jh.f k a2).bind fun t478 => (Jq.l0 k a0 a1 t478 ([] : List ByteArray) 0)) = some r := h
 clear h
 revert H; refine oa_ fun t478 A4 H => ?_
 have H' := Aside0.mk H
 clear H
 go_enter Tryz.func41, Tryz.ntmps41
 go_wp2_with (first | ((with_reducible refine gate_callee (f := 60) rfl ?_); refine gL_ 11 Tryz.func60 #[.string a2] ?_; (with_reducible refine (Jh.calls k a2 t478 _ A4.out).mono ?_); rintro e w5 ⟨v479, rfl, ho0, hb⟩; refine ⟨_, rfl, ?_⟩; have HO480 := Aside0.mk (Kd.R_lower ho0 (below_size bl_)); replace HB := Aside0.mk (below_step bl_ hb); clear hb ho0))
 go_loopg [8, 9] k (fun kq v8 v9 w' => ∃ (x8_1 : List ByteArray) (x9_1 : Int), v9 = .int .i64 x9_1 ∧ Aside0 (Jq.l0 kq a0 a1 t478 x8_1 x9_1 = some r) ∧ Aside0 (kq ≤ k) ∧ Aside0 (Kd.R (Kd.int .i64) 3 w' w.heap.size (fun _ => True) v479 t478) ∧ Aside0 (Kd.R Kd.string 9 w' w.heap.size (fun _ => True) v8 x8_1) ∧ Aside0 (Below w.heap.size w w'))
 case atStart => exact ⟨(([] : List ByteArray)), (0), vq_, H', ⟨Nat.le_refl _⟩, ⟨mv_ HO480.out⟩, ⟨by first | exact Kd.R_nil _ _ _ _ _ | exact Kd.N_nil _ _ _ _ _ | exact Kd.V_nil _ _ _ _ _ | exact Kd.Q_nil _ _ _ _ _ | exact Kd.S_nil _ _ _ _ _⟩, ⟨bl_⟩⟩
 case round =>
  clear H'
  obtain ⟨x8_1, x9_1, rfl, HA, HK1, HO_7, HO_8, HB⟩ := hrel
  cases gk with
  | zero => exact absurd HA.out (by simp [Jq.l0])
  | succ k1 =>
   have H := HA.out
   clear HA
   simp only [Jq.l0] at H
   by_cases c6 : x9_1 < 67
   ·rw [if_pos c6] at H
    have c6b0 : decide (x9_1 < 67) = true := decide_eq_true c6
    clear c6
    revert H; refine oa_ fun t481 A7 => nd_ fun c8 c8b0 => nd_ fun c9 c9b0 => oa_ fun t483 A10 => nc_ fun c11 H => ?_
    have LMc11 := Aside0.mk c11
    clear c8 c9 c11
    generalize e_ : (x8_1 ++ [t483] : List ByteArray) = y484 at H
    have Ny484 := Aside0.mk e_.symm
    clear e_
    have H' := Aside0.mk H
    clear H
    try go_wp2
    replace HB := Aside0.mk (below_drew1 HB.out)
    replace HO_8 := Aside0.mk (Kd.R_drew HO_8.out)
    replace HO_7 := Aside0.mk (Kd.R_drew HO_7.out)
    obtain ⟨Ao13, co13, eo13⟩ := Kd.R_slice HO_7.out
    (first | subst eo13 | (injection eo13 with f1_ f2_ f3_; have f4_ := f1_.symm; have f5_ := f3_.symm; clear f1_ f2_ f3_; subst f4_; subst f5_))
    have p482 : 0 ≤ (x9_1 : Int) := ae_
    have q482 : x9_1 < (t478.length : Int) := ae_
    obtain ⟨ad482, e482, hx482_0⟩ := Kd.at_int (Kd.R_reads' HO_7.out).2.2 x9_1 p482 q482
    cases e482
    replace p482 := eq_true p482
    replace q482 := eq_true q482
    refine sK_ 14 (fun w' => w'.cell? (ad482.add (x9_1).toNat) = some (.int .i64 (rd t478 x9_1))) [11, 12] Jq.tab6 Jq.bits6 (hx482_0) fun hHeld HT_ HW_ => ?_
    generalize wr.drew = w12 at HO_7 HO_8 HB hx482_0 hHeld ⊢
    refine runs_ [(0, some 16), (1, some 17), (2, some 18), (3, some 19), (4, some 20), (6, some 22), (7, some 23), (8, some 24), (9, some 25)] ?_
    (iterate 8 (refine pL_ ?_)); refine tL_ ?_; refine runsE_ ?_
    refine oK_ 5 (some 21) fun K hK => ?_
    refine goes_ Tryz.func67 (by kernel_rfl) rfl #[.string a0, .int .i64 a1, .int .i64 x9_1] (by rfl) rfl rfl gm1_ ?_
    with_reducible refine (Uf.calls k1 a0 a1 x9_1 t481 _ A7.out).mono ?_
    rintro e w14 ⟨rfl, hb⟩
    have HS0_ := (hb.cell (World.block_lt_of_cell? _ _ (hHeld))).trans (hHeld)
    refine ⟨_, rfl, ?_⟩
    replace HB := Aside0.mk (below_step bl_ hb)
    replace HO_8 := Aside0.mk (Kd.R_below (mv_ HO_8.out) hb)
    replace HO_7 := Aside0.mk (Kd.R_below (mv_ HO_7.out) hb)
    clear hb
    refine hK.out _ _ (HS0_) (fun hHeld => ?_)
    clear hK K
    refine nK_ (some 21) ?_
    refine oK_ 10 (some 26) fun K hK => ?_
    refine goes_ Tryz.func66 (by kernel_rfl) rfl #[.int .i64 x9_1, .string t481, .int .i64 (rd t478 x9_1)] (by rfl) rfl rfl gm1_ ?_
    with_reducible refine (Jx.calls k1 x9_1 t481 (rd t478 x9_1) t483 _ A10.out).mono ?_
    rintro e w15 ⟨rfl, hb⟩
    have HS0_ := (hb.cell (World.block_lt_of_cell? _ _ (hHeld))).trans (hHeld)
    refine ⟨_, rfl, ?_⟩
    replace HB := Aside0.mk (below_step bl_ hb)
    replace HO_8 := Aside0.mk (Kd.R_below (mv_ HO_8.out) hb)
    replace HO_7 := Aside0.mk (Kd.R_below (mv_ HO_7.out) hb)
    clear hb
    refine hK.out _ _ (HS0_) (fun hHeld => ?_)
    clear hK K
    refine nK_ (some 26) ?_
    refine lK_ 11 (some 27) fun K hK => ?_
    refine value_ (w1 := ?_) (v := ?_) (by rfl) rfl ?_ ?_
    rotate_left 2
    ·go_simp
     constructor
     ·rfl
     rfl
    refine hK.out _ _ ?_
    clear hK K
    refine nK_ (some 27) ?_
    refine lK_ 12 (some 28) fun K hK => ?_
    refine Kd.R_append_step Kd.string (w0 := w) w.heap.size (by rfl) (.tmp 16) (.tmp 27) 22 9 (.string ⟨#[]⟩) 16 rfl Tryz.underlying22 info9 rfl (by decide) (by omega) u8 x8_1 t483 [.string t483] (fun _ => True) (fun _ => False) rfl rfl ?aP (fun _ hk => hk.elim) ?aF ?aO ?aB ?aS ?aL ?_
    (case aP => exact rfl)
    (case aB => exact bl_)
    (case aF => exact (fun _ _ => trivial))
    (case aO => exact (mv_ HO_8.out))
    (case aS => exact (below_size bl_))
    (case aL => have := LMc11.out; omega)
    intro v485 w16 ho hb hg hat
    rw [← Ny484.out] at ho
    have HO486 := Aside0.mk (ho)
    replace HB := Aside0.mk (hb)
    replace HO_7 := Aside0.mk (Kd.R_over' (mv_ HO_7.out) (Kd.R_typed (mv_ HO_8.out)) (by decide) hg)
    clear HO_8
    clear ho hb hg hat
    refine hK.out _ _ ?_
    clear hK K
    refine nK_ (some 28) ?_
    refine pK_ 13 8 ?_
    refine dK_ ?_
    try go_wp2
    go_roundg k1
    case measure => have := HK1.out; omega
    case rel => exact ⟨(y484), (wrap64 (x9_1 + 1)), vq_, H', ⟨by have := HK1.out; omega⟩, ⟨mv_ HO_7.out⟩, ⟨mv_ HO486.out⟩, ⟨bl_⟩⟩
   rw [if_neg c6] at H
   have c6b0 : decide (x9_1 < 67) = false := decide_eq_false c6
   clear c6
   obtain rfl := Option.some.inj H
   go_wp2
   go_ret
   exact ⟨_, er_, mv_ HO_8.out, bl_⟩

/-! ### Jz = palaverref04_Path: function 42 -/
def Jz.l0 : Nat → Int → List (List ByteArray) → List ByteArray → Int → Option (List ByteArray)
 | 0, _, _, _, _ => none
 | k + 1, x1, x5, x6, x7 => if x7 < (wrap64 ((x5.length : Int) - 1)) then (if (Int.tmod x1 2) = 0 then (if 0 ≤ x7 then (if x7 < (x5.length : Int) then (if 0 ≤ (wrap64 (x1 + 1)) then (if (wrap64 (x1 + 1)) < ((rd_L4 x5 x7).length : Int) then (if x6.length < 8796093022208 then (Jz.l0 k (wrap64 (Int.tdiv x1 2)) x5 (x6 ++ [rdOf ByteArray.empty (rd_L4 x5 x7) (wrap64 (x1 + 1))]) (wrap64 (x7 + 1))) else (none)) else (none)) else (none)) else (none)) else (none)) else (if 0 ≤ x7 then (if x7 < (x5.length : Int) then (if 0 ≤ (wrap64 (x1 - 1)) then (if (wrap64 (x1 - 1)) < ((rd_L4 x5 x7).length : Int) then (if x6.length < 8796093022208 then (Jz.l0 k (wrap64 (Int.tdiv x1 2)) x5 (x6 ++ [rdOf ByteArray.empty (rd_L4 x5 x7) (wrap64 (x1 - 1))]) (wrap64 (x7 + 1))) else (none)) else (none)) else (none)) else (none)) else (none))) else (some x6)
def Jz.f (k : Nat) (l0 : List ByteArray) (a1 : Int) : Option (List ByteArray) := (Jg.f k l0).bind fun t487 => (Jz.l0 k a1 t487 ([] : List ByteArray) 0)
set_option maxHeartbeats 64000000 in
set_option maxRecDepth 100000 in
theorem Jz.calls (k : Nat) (A0 : Option Addr) (c0 : Nat) (l0 : List ByteArray) (a1 : Int) (r : List ByteArray) (w : World) (hr0 : Kd.C Kd.string w A0 l0.length l0) (hc0 : l0.length ≤ c0) (h : Jz.f k l0 a1 = some r) :
 Calls Tryz.prog 42 #[.slice A0 l0.length c0, .int .i64 a1] w fun e w' => ∃ v0_ : Value, e = .returned (v0_) ∧ Kd.R Kd.string 9 w' w.heap.size (fun _ => True) v0_ r ∧ Below w.heap.size w w' := by
 have HR0 := Aside0.mk hr0
 have HC0 := Aside0.mk hc0
 clear hr0 hc0
 have HB := Aside0.mk (Below.refl w.heap.size w)
 have H : ((Jg.f k l0).bind fun t487 => (Jz.l0 k a1 t487 ([] : List ByteArray) 0)) = some r := h
 clear h
 revert H; refine oa_ fun t487 A3 H => ?_
 have H' := Aside0.mk H
 clear H
 go_enter Tryz.func42, Tryz.ntmps42
 go_wp2_with (first | ((with_reducible refine gate_callee (f := 63) rfl ?_); refine gL_ 9 Tryz.func63 #[.slice A0 l0.length c0] ?_; (with_reducible refine (Jg.calls k (fun k_ => k_ < w.heap.size) _ _ l0 t487 _ ?side1 A3.out).mono ?_); (case side1 => exact Kd.V_mk HC0.out (Kd.F_below (Kd.C_F Kd.heap_string HR0.out) bl_)); rintro e w4 ⟨v488, rfl, ho0, hb⟩; refine ⟨_, rfl, ?_⟩; have HO489 := Aside0.mk (Kd.N_lower (Kd.N_mono (ok' := fun k_ => True) ho0 (fun k_ hk_ => trivial)) (below_size bl_)); replace HB := Aside0.mk (below_step bl_ hb); clear hb ho0))
 go_loopg [1, 6, 7] k (fun kq v1 v6 v7 w' => ∃ (x1_1 : Int) (x6_1 : List ByteArray) (x7_1 : Int), v1 = .int .i64 x1_1 ∧ v7 = .int .i64 x7_1 ∧ Aside0 (Jz.l0 kq x1_1 t487 x6_1 x7_1 = some r) ∧ Aside0 (kq ≤ k) ∧ Aside0 (Kd.N (Kd.slice 9 Kd.string) 22 w' w.heap.size (fun k_ => some k_ ≠ (v6 : Value).ownBlock) v488 t487) ∧ Aside0 (Kd.R Kd.string 9 w' w.heap.size (fun _ => True) v6 x6_1) ∧ Aside0 (Below w.heap.size w w'))
 case atStart => exact ⟨(a1), (([] : List ByteArray)), (0), vq_, vq_, H', ⟨Nat.le_refl _⟩, ⟨by (with_reducible repeat (first | apply Kd.N_alloc | apply Kd.N_drewN | apply Kd.N_drew)); exact Kd.N_mono HO489.out (fun _ hk => (by simp [Value.ownBlock]))⟩, ⟨by first | exact Kd.R_nil _ _ _ _ _ | exact Kd.N_nil _ _ _ _ _ | exact Kd.V_nil _ _ _ _ _ | exact Kd.Q_nil _ _ _ _ _ | exact Kd.S_nil _ _ _ _ _⟩, ⟨bl_⟩⟩
 case round =>
  clear H'
  obtain ⟨x1_1, x6_1, x7_1, rfl, rfl, HA, HK1, HO_5, HO_6, HB⟩ := hrel
  cases gk with
  | zero => exact absurd HA.out (by simp [Jz.l0])
  | succ k1 =>
   have H := HA.out
   clear HA
   simp only [Jz.l0] at H
   by_cases c5 : x7_1 < (wrap64 ((t487.length : Int) - 1))
   ·rw [if_pos c5] at H
    have c5b0 : decide (x7_1 < (wrap64 ((t487.length : Int) - 1))) = true := decide_eq_true c5
    clear c5
    by_cases c6 : (Int.tmod x1_1 2) = 0
    ·rw [if_pos c6] at H
     have c6b0 : ((Int.tmod x1_1 2) == 0) = true := beq_iff_eq.mpr c6
     have c6b1 : ((Int.tmod x1_1 2) != 0) = false := bne_eq_false_iff_eq.mpr c6
     clear c6
     revert H; refine nd_ fun c7 c7b0 => nd_ fun c8 c8b0 H => ?_
     clear c7 c8
     generalize hji9 : (wrap64 (x1_1 + 1)) = ji9 at H
     have hji9w := (i64_w _).trans hji9
     revert H; refine nd_ fun c10 c10b0 => nd_ fun c11 c11b0 => nc_ fun c12 H => ?_
     have LMc12 := Aside0.mk c12
     clear c10 c11 c12
     generalize e_ : (x6_1 ++ [rdOf ByteArray.empty (rd_L4 t487 x7_1) (ji9)] : List ByteArray) = y492 at H
     have Ny492 := Aside0.mk e_.symm
     clear e_
     have H' := Aside0.mk H
     clear H
     obtain ⟨Ao13, co13, eo13⟩ := Kd.N_slice HO_5.out
     subst eo13
     have p490 : 0 ≤ (x7_1 : Int) := ae_
     have q490 : x7_1 < (t487.length : Int) := ae_
     obtain ⟨ad490, A490_0, c490_0, e490, hx490_0, hl490_0, hi490_0⟩ := at_L4 (Kd.N_reads' HO_5.out).2.2 x7_1 p490 q490
     cases e490
     obtain ⟨ce490, hce490, hMe490, hcc490⟩ := Kd.N_get HO_5.out [] x7_1 p490 (by first | exact q490 | exact ae_ | (have e_ := (Kd.N_reads' HO_5.out).1; omega))
     obtain ⟨ua490_0, uc490_0, rfl, ul490_0, ge490_0⟩ := Kd.FK_slice_open hMe490
     have hv490_0 := hcc490 0 _ rfl
     rw [Nat.add_zero, show ((Kd.slice 9 Kd.string)).sz = 1 from rfl, Nat.mul_one] at hv490_0
     replace hv490_0 := Option.some.inj (hv490_0.symm.trans hx490_0)
     injection hv490_0 with hva_ hvn_ hvc_
     rw [hva_] at ge490_0
     rw [hvc_] at ul490_0
     have HL490_0 := Aside0.mk (show Kd.V Kd.string 9 _ w.heap.size _ _ (rd_L4 t487 x7_1) from Kd.V_mk ul490_0 ge490_0)
     clear hva_ hvn_ hvc_ ge490_0 ul490_0
     clear hcc490 hce490
     have HR490_0 := Aside0.mk hi490_0
     have HC490_0 := Aside0.mk hl490_0
     clear hi490_0 hl490_0
     replace p490 := eq_true p490
     replace q490 := eq_true q490
     have p491 : 0 ≤ ((ji9) : Int) := ae_
     have q491 : (ji9) < ((rd_L4 t487 x7_1).length : Int) := ae_
     obtain ⟨ad491, e491, hx491_0⟩ := Kd.at_string (by repeat (first | (with_reducible exact HR490_0.out) | (with_reducible refine Kd.C_alloc ?_ _) | (with_reducible refine Kd.C_drewN ?_ _) | (with_reducible refine Kd.C_drew ?_) | exact HR490_0.out)) (ji9) p491 q491
     cases e491
     replace p491 := eq_true p491
     replace q491 := eq_true q491
     go_wp2_with (first | ((with_reducible refine gate_builtin (b := .append) (xs := #[.tmp 20, .tmp 29]) rfl ?_); at_builtin; refine Kd.R_append Kd.string (w0 := w) w.heap.size rfl (.tmp 20) (.tmp 29) 22 9 (.string ⟨#[]⟩) 16 rfl Tryz.underlying22 info9 rfl (by decide) (by omega) u6 x6_1 (rdOf ByteArray.empty (rd_L4 t487 x7_1) (ji9)) [.string (rdOf ByteArray.empty (rd_L4 t487 x7_1) (ji9))] (fun _ => True) (fun _ => False) rfl rfl ?aP (fun _ hk => hk.elim) ?aF ?aO ?aB ?aS ?aL ?_; (case aP => exact rfl); (case aB => exact bl_); (case aF => exact (fun _ _ => trivial)); (case aO => exact (mv_ HO_6.out)); (case aS => exact (below_size bl_)); (case aL => have := LMc12.out; omega); intro v493 w14 ho hb hg hat; rw [← Ny492.out] at ho; have HO494 := Aside0.mk (ho); replace HB := Aside0.mk (hb); replace HL490_0 := Aside0.mk (Kd.V_afterv (ok := (fun k_ => some k_ ≠ (.slice (some ad490) t487.length co13 : Value).ownBlock)) (by (with_reducible repeat (first | apply Kd.V_alloc | apply Kd.V_drewN | apply Kd.V_drew)); exact Kd.V_mono HL490_0.out (fun _ hk => ⟨hk.2, hk.1⟩)) hg hat); replace HO_5 := Aside0.mk (Kd.N_afterv (ok := (fun _ => True)) (by (with_reducible repeat (first | apply Kd.N_alloc | apply Kd.N_drewN | apply Kd.N_drew)); exact Kd.N_mono HO_5.out (fun _ hk => ⟨trivial, hk⟩)) hg hat); clear HO_6; clear ho hb hg hat))
     go_roundg k1
     case measure => have := HK1.out; omega
     case rel => exact ⟨(wrap64 (Int.tdiv x1_1 2)), (y492), (wrap64 (x7_1 + 1)), vq_, vq_, H', ⟨by have := HK1.out; omega⟩, ⟨by (with_reducible repeat (first | apply Kd.N_alloc | apply Kd.N_drewN | apply Kd.N_drew)); exact Kd.N_mono HO_5.out (fun _ hk => hk.2)⟩, ⟨mv_ HO494.out⟩, ⟨bl_⟩⟩
    rw [if_neg c6] at H
    have c6b0 : ((Int.tmod x1_1 2) == 0) = false := beq_eq_false_iff_ne.mpr c6
    have c6b1 : ((Int.tmod x1_1 2) != 0) = true := bne_iff_ne.mpr c6
    revert H; refine nd_ fun c15 c15b0 => nd_ fun c16 c16b0 H => ?_
    clear c15 c16
    generalize hji17 : (wrap64 (x1_1 - 1)) = ji17 at H
    have hji17w := (i64_w _).trans hji17
    revert H; refine nd_ fun c18 c18b0 => nd_ fun c19 c19b0 => nc_ fun c20 H => ?_
    have LMc20 := Aside0.mk c20
    clear c18 c19 c20
    generalize e_ : (x6_1 ++ [rdOf ByteArray.empty (rd_L4 t487 x7_1) (ji17)] : List ByteArray) = y497 at H
    have Ny497 := Aside0.mk e_.symm
    clear e_
    have H' := Aside0.mk H
    clear H
    obtain ⟨Ao21, co21, eo21⟩ := Kd.N_slice HO_5.out
    subst eo21
    have p495 : 0 ≤ (x7_1 : Int) := ae_
    have q495 : x7_1 < (t487.length : Int) := ae_
    obtain ⟨ad495, A495_0, c495_0, e495, hx495_0, hl495_0, hi495_0⟩ := at_L4 (Kd.N_reads' HO_5.out).2.2 x7_1 p495 q495
    cases e495
    obtain ⟨ce495, hce495, hMe495, hcc495⟩ := Kd.N_get HO_5.out [] x7_1 p495 (by first | exact q495 | exact ae_ | (have e_ := (Kd.N_reads' HO_5.out).1; omega))
    obtain ⟨ua495_0, uc495_0, rfl, ul495_0, ge495_0⟩ := Kd.FK_slice_open hMe495
    have hv495_0 := hcc495 0 _ rfl
    rw [Nat.add_zero, show ((Kd.slice 9 Kd.string)).sz = 1 from rfl, Nat.mul_one] at hv495_0
    replace hv495_0 := Option.some.inj (hv495_0.symm.trans hx495_0)
    injection hv495_0 with hva_ hvn_ hvc_
    rw [hva_] at ge495_0
    rw [hvc_] at ul495_0
    have HL495_0 := Aside0.mk (show Kd.V Kd.string 9 _ w.heap.size _ _ (rd_L4 t487 x7_1) from Kd.V_mk ul495_0 ge495_0)
    clear hva_ hvn_ hvc_ ge495_0 ul495_0
    clear hcc495 hce495
    have HR495_0 := Aside0.mk hi495_0
    have HC495_0 := Aside0.mk hl495_0
    clear hi495_0 hl495_0
    replace p495 := eq_true p495
    replace q495 := eq_true q495
    have p496 : 0 ≤ ((ji17) : Int) := ae_
    have q496 : (ji17) < ((rd_L4 t487 x7_1).length : Int) := ae_
    obtain ⟨ad496, e496, hx496_0⟩ := Kd.at_string (by repeat (first | (with_reducible exact HR495_0.out) | (with_reducible refine Kd.C_alloc ?_ _) | (with_reducible refine Kd.C_drewN ?_ _) | (with_reducible refine Kd.C_drew ?_) | exact HR495_0.out)) (ji17) p496 q496
    cases e496
    replace p496 := eq_true p496
    replace q496 := eq_true q496
    go_wp2_with (first | ((with_reducible refine gate_builtin (b := .append) (xs := #[.tmp 31, .tmp 40]) rfl ?_); at_builtin; refine Kd.R_append Kd.string (w0 := w) w.heap.size rfl (.tmp 31) (.tmp 40) 22 9 (.string ⟨#[]⟩) 16 rfl Tryz.underlying22 info9 rfl (by decide) (by omega) u6 x6_1 (rdOf ByteArray.empty (rd_L4 t487 x7_1) (ji17)) [.string (rdOf ByteArray.empty (rd_L4 t487 x7_1) (ji17))] (fun _ => True) (fun _ => False) rfl rfl ?aP (fun _ hk => hk.elim) ?aF ?aO ?aB ?aS ?aL ?_; (case aP => exact rfl); (case aB => exact bl_); (case aF => exact (fun _ _ => trivial)); (case aO => exact (mv_ HO_6.out)); (case aS => exact (below_size bl_)); (case aL => have := LMc20.out; omega); intro v498 w22 ho hb hg hat; rw [← Ny497.out] at ho; have HO499 := Aside0.mk (ho); replace HB := Aside0.mk (hb); replace HL495_0 := Aside0.mk (Kd.V_afterv (ok := (fun k_ => some k_ ≠ (.slice (some ad495) t487.length co21 : Value).ownBlock)) (by (with_reducible repeat (first | apply Kd.V_alloc | apply Kd.V_drewN | apply Kd.V_drew)); exact Kd.V_mono HL495_0.out (fun _ hk => ⟨hk.2, hk.1⟩)) hg hat); replace HO_5 := Aside0.mk (Kd.N_afterv (ok := (fun _ => True)) (by (with_reducible repeat (first | apply Kd.N_alloc | apply Kd.N_drewN | apply Kd.N_drew)); exact Kd.N_mono HO_5.out (fun _ hk => ⟨trivial, hk⟩)) hg hat); clear HO_6; clear ho hb hg hat))
    go_roundg k1
    case measure => have := HK1.out; omega
    case rel => exact ⟨(wrap64 (Int.tdiv x1_1 2)), (y497), (wrap64 (x7_1 + 1)), vq_, vq_, H', ⟨by have := HK1.out; omega⟩, ⟨by (with_reducible repeat (first | apply Kd.N_alloc | apply Kd.N_drewN | apply Kd.N_drew)); exact Kd.N_mono HO_5.out (fun _ hk => hk.2)⟩, ⟨mv_ HO499.out⟩, ⟨bl_⟩⟩
   rw [if_neg c5] at H
   have c5b0 : decide (x7_1 < (wrap64 ((t487.length : Int) - 1))) = false := decide_eq_false c5
   clear c5
   obtain rfl := Option.some.inj H
   obtain ⟨Ao23, co23, eo23⟩ := Kd.N_slice HO_5.out
   subst eo23
   go_wp2
   go_ret
   exact ⟨_, er_, mv_ HO_6.out, bl_⟩

/-! ### Jr = palaverref05_Sign: function 18 -/
mutual
def Jr.l0 : Nat → ByteArray → List ByteArray → List ByteArray → Int → Option (ByteArray)
 | 0, _, _, _, _ => none
 | k + 1, x9, x11, x12, x13 => if x13 < (x11.length : Int) then (if 0 ≤ x13 then (if x9.size + (rdOf ByteArray.empty x11 x13).size ≤ 9223372036854775807 then (Jr.l0 k (x9 ++ (rdOf ByteArray.empty x11 x13)) x11 x12 (wrap64 (x13 + 1))) else (none)) else (none)) else (Jr.l1 k x9 x12 0)
def Jr.l1 : Nat → ByteArray → List ByteArray → Int → Option (ByteArray)
 | 0, _, _, _ => none
 | k + 1, x9, x12, x14 => if x14 < (x12.length : Int) then (if 0 ≤ x14 then (if x9.size + (rdOf ByteArray.empty x12 x14).size ≤ 9223372036854775807 then (Jr.l1 k (x9 ++ (rdOf ByteArray.empty x12 x14)) x12 (wrap64 (x14 + 1))) else (none)) else (none)) else (some x9)
end
def Jr.f (k : Nat) (a0 : ByteArray) (a1 : Int) (a2 : Int) (a3 : ByteArray) : Option (ByteArray) := (Jc.f k a2 2).bind fun bt500 => ((Jo.f k 6 (([a3] : List ByteArray))).bind fun t505 => ((Jq.f k a0 a2 t505).bind fun t506 => ((Jl.f k a0 a1).bind fun t509 => ((Jz.f k t509 a2).bind fun t512 => (Jr.l0 k bt500.1 t506 t512 0)))))
set_option maxHeartbeats 64000000 in
set_option maxRecDepth 100000 in
theorem Jr.calls (k : Nat) (a0 : ByteArray) (a1 : Int) (a2 : Int) (a3 : ByteArray) (r : ByteArray) (w : World) (h : Jr.f k a0 a1 a2 a3 = some r) :
 Calls Tryz.prog 18 #[.string a0, .int .i64 a1, .int .i64 a2, .string a3] w fun e w' => e = .returned (.string r) ∧ Below w.heap.size w w' := by
 have HB := Aside0.mk (Below.refl w.heap.size w)
 have H : ((Jc.f k a2 2).bind fun bt500 => ((Jo.f k 6 (([a3] : List ByteArray))).bind fun t505 => ((Jq.f k a0 a2 t505).bind fun t506 => ((Jl.f k a0 a1).bind fun t509 => ((Jz.f k t509 a2).bind fun t512 => (Jr.l0 k bt500.1 t506 t512 0)))))) = some r := h
 clear h
 replace H := ob_ H
 obtain ⟨⟨t500, t501⟩, A50, H⟩ := H
 replace H : ((Jo.f k 6 (([a3] : List ByteArray))).bind fun t505 => ((Jq.f k a0 a2 t505).bind fun t506 => ((Jl.f k a0 a1).bind fun t509 => ((Jz.f k t509 a2).bind fun t512 => (Jr.l0 k t500 t506 t512 0))))) = some r := H
 have A5 := Aside0.mk A50
 clear A50
 generalize e_ : (([a3] : List ByteArray) : List ByteArray) = y502 at H
 have Ny502 := Aside0.mk e_.symm
 clear e_
 revert H; refine oa_ fun t505 A6 => oa_ fun t506 A7 => oa_ fun t509 A8 => oa_ fun t512 A9 H => ?_
 have H' := Aside0.mk H
 clear H
 go_enter Tryz.func18, Tryz.ntmps18
 go_wp2_with (first | ((with_reducible refine gate_callee (f := 33) rfl ?_); refine gL_ 17 Tryz.func33 #[.int .i64 a2, .int .i64 2] ?_; (with_reducible refine (Jc.calls k a2 2 t500 t501 _ A5.out).mono ?_); rintro e w10 ⟨rfl, hb⟩; refine ⟨_, rfl, ?_⟩; replace HB := Aside0.mk (below_step bl_ hb); (try clear hb); (try clear hb2); (try clear hk); (try clear hi)) | ((with_reducible refine gate_dst (N := 23) rfl ?_); refine Kd.R_lit Kd.string _ 9 ?hg (N := 23) ?hd (xs := ([a3] : List ByteArray)) (inner := [.string a3]) (ok := fun _ => True) (okp := fun _ => True) ?hr ?hp (fun _ hk => hk) trivial (Below.refl _ _) (Nat.le_refl _) (by simp) ?_; (case hd => rfl); (case hg => rfl); (case hr => exact gr_); (case hp => exact (Reps.one (show Kd.M Kd.string _ _ _ a3 [.string a3] from rfl) (Reps.none _ _))); intro v503 w11 ho12 hb hg_ hnew_; clear hg_ hnew_; (first | rw [← Ny502.out] at ho12 | (simp only [Int.reduceToNat] at ho12; rw [← Ny502.out] at ho12)); have HO504 := Aside0.mk (Kd.R_lower ho12 (below_size bl_)); replace HB := Aside0.mk (below_step bl_ hb); clear hb ho12; obtain ⟨Ao13, co13, eo13⟩ := Kd.R_slice HO504.out; subst eo13) | ((with_reducible refine gate_callee (f := 31) rfl ?_); refine gL_ 24 Tryz.func31 #[.int .i64 6, .slice Ao13 y502.length co13] ?_; (with_reducible refine (Jo.calls k 6 _ _ y502 t505 _ ?side1 ?side2 A6.out).mono ?_); (case side1 => repeat (first | exact (Kd.R_reads' HO504.out).2.2 | (with_reducible refine Kd.C_alloc ?_ _) | (with_reducible refine Kd.C_drewN ?_ _) | (with_reducible refine Kd.C_drew ?_))); (case side2 => exact (Kd.R_reads' HO504.out).2.1); rintro e w14 ⟨rfl, hb⟩; refine ⟨_, rfl, ?_⟩; replace HB := Aside0.mk (below_step bl_ hb); replace HO504 := Aside0.mk (Kd.R_below (mv_ HO504.out) hb); (try clear hb); (try clear hb2); (try clear hk); (try clear hi)) | ((with_reducible refine gate_callee (f := 41) rfl ?_); refine gL_ 25 Tryz.func41 #[.string a0, .int .i64 a2, .string t505] ?_; (with_reducible refine (Jq.calls k a0 a2 t505 t506 _ A7.out).mono ?_); rintro e w15 ⟨v507, rfl, ho0, hb⟩; refine ⟨_, rfl, ?_⟩; have HO508 := Aside0.mk (Kd.R_lower (Kd.R_new' ho0 (Kd.R_lt (mv_ HO504.out))) (below_size bl_)); replace HB := Aside0.mk (below_step bl_ hb); replace HO504 := Aside0.mk (Kd.R_elder' (mv_ HO504.out) (Kd.R_base ho0) hb); (try clear hb); (try clear hb2); (try clear hk); (try clear hi); (try clear ho0)) | ((with_reducible refine gate_callee (f := 39) rfl ?_); refine gL_ 28 Tryz.func39 #[.string a0, .int .i64 a1] ?_; (with_reducible refine (Jl.calls k a0 a1 t509 _ A8.out).mono ?_); rintro e w16 ⟨v510, rfl, ho0, hb⟩; refine ⟨_, rfl, ?_⟩; have HO511 := Aside0.mk (Kd.R_lower (Kd.R_new' (Kd.R_new' ho0 (Kd.R_lt (mv_ HO504.out))) (Kd.R_lt (mv_ HO508.out))) (below_size bl_)); replace HB := Aside0.mk (below_step bl_ hb); replace HO508 := Aside0.mk (Kd.R_elder' (mv_ HO508.out) (Kd.R_base ho0) hb); replace HO504 := Aside0.mk (Kd.R_elder' (mv_ HO504.out) (Kd.R_base ho0) hb); (try clear hb); (try clear hb2); (try clear hk); (try clear hi); (try clear ho0); obtain ⟨Ao17, co17, eo17⟩ := Kd.R_slice HO511.out; subst eo17) | ((with_reducible refine gate_callee (f := 42) rfl ?_); refine gL_ 30 Tryz.func42 #[.slice Ao17 t509.length co17, .int .i64 a2] ?_; (with_reducible refine (Jz.calls k _ _ t509 a2 t512 _ ?side1 ?side2 A9.out).mono ?_); (case side1 => repeat (first | exact (Kd.R_reads' HO511.out).2.2 | (with_reducible refine Kd.C_alloc ?_ _) | (with_reducible refine Kd.C_drewN ?_ _) | (with_reducible refine Kd.C_drew ?_))); (case side2 => exact (Kd.R_reads' HO511.out).2.1); rintro e w18 ⟨v513, rfl, ho0, hb⟩; refine ⟨_, rfl, ?_⟩; have HO514 := Aside0.mk (Kd.R_lower (Kd.R_new' (Kd.R_new' (Kd.R_new' ho0 (Kd.R_lt (mv_ HO504.out))) (Kd.R_lt (mv_ HO508.out))) (Kd.R_lt (mv_ HO511.out))) (below_size bl_)); replace HB := Aside0.mk (below_step bl_ hb); replace HO511 := Aside0.mk (Kd.R_elder' (mv_ HO511.out) (Kd.R_base ho0) hb); replace HO508 := Aside0.mk (Kd.R_elder' (mv_ HO508.out) (Kd.R_base ho0) hb); replace HO504 := Aside0.mk (Kd.R_elder' (mv_ HO504.out) (Kd.R_base ho0) hb); (try clear hb); (try clear hb2); (try clear hk); (try clear hi); (try clear ho0)))
 go_loopg [9, 13] k (fun kq v9 v13 w' => ∃ (x9_1 : ByteArray) (x13_1 : Int), v9 = .string x9_1 ∧ v13 = .int .i64 x13_1 ∧ Aside0 (Jr.l0 kq x9_1 t506 t512 x13_1 = some r) ∧ Aside0 (kq ≤ k) ∧ Aside0 (Kd.R Kd.string 9 w' w.heap.size (fun k_ => some k_ ≠ (v513 : Value).ownBlock) v507 t506) ∧ Aside0 (Kd.R Kd.string 9 w' w.heap.size (fun k_ => some k_ ≠ (v507 : Value).ownBlock) v513 t512) ∧ Aside0 (Below w.heap.size w w'))
 case atStart => exact ⟨(t500), (0), vq_, vq_, H', ⟨Nat.le_refl _⟩, ⟨by refine mv_ ?_; exact Kd.R_mono HO508.out (fun _ hk => hk.2)⟩, ⟨by refine mv_ ?_; exact Kd.R_mono HO514.out (fun _ hk => hk.1.2)⟩, ⟨bl_⟩⟩
 case round =>
  clear H'
  (try clear c1); (try clear p2); (try clear c3); (try clear c4); (try clear p6); (try clear c18)
  obtain ⟨x9_1, x13_1, rfl, rfl, HA, HK1, HO_11, HO_12, HB⟩ := hrel
  cases gk with
  | zero => exact absurd HA.out (by simp [Jr.l0])
  | succ k1 =>
   have H := HA.out
   clear HA
   simp only [Jr.l0] at H
   by_cases c19 : x13_1 < (t506.length : Int)
   ·rw [if_pos c19] at H
    have c19b0 : decide (x13_1 < (t506.length : Int)) = true := decide_eq_true c19
    clear c19
    revert H; refine nd_ fun c20 c20b0 => ne_ fun c21 c21b0 c21b1 H => ?_
    try have c21b2 : (9223372036854775807 < x9_1.size + (rdOf ByteArray.empty t506 x13_1).size) = False := eq_false (Nat.not_lt.2 c21)
    clear c20
    have H' := Aside0.mk H
    clear H
    obtain ⟨Ao22, co22, eo22⟩ := Kd.R_slice HO_11.out
    subst eo22
    have p515 : 0 ≤ (x13_1 : Int) := ae_
    have q515 : x13_1 < (t506.length : Int) := ae_
    obtain ⟨ad515, e515, hx515_0⟩ := Kd.at_string (Kd.R_reads' HO_11.out).2.2 x13_1 p515 q515
    cases e515
    replace p515 := eq_true p515
    replace q515 := eq_true q515
    go_wp2
    go_roundg k1
    case measure => have := HK1.out; omega
    case rel => exact ⟨(x9_1 ++ (rdOf ByteArray.empty t506 x13_1)), (wrap64 (x13_1 + 1)), vq_, vq_, H', ⟨by have := HK1.out; omega⟩, ⟨mv_ HO_11.out⟩, ⟨mv_ HO_12.out⟩, ⟨bl_⟩⟩
   rw [if_neg c19] at H
   have c19b0 : decide (x13_1 < (t506.length : Int)) = false := decide_eq_false c19
   clear c19
   have H' := Aside0.mk H
   clear H
   obtain ⟨Ao23, co23, eo23⟩ := Kd.R_slice HO_11.out
   subst eo23
   go_wp2
   go_loopg [9, 14] k1 (fun kq v9 v14 w' => ∃ (x9_2 : ByteArray) (x14_2 : Int), v9 = .string x9_2 ∧ v14 = .int .i64 x14_2 ∧ Aside0 (Jr.l1 kq x9_2 t512 x14_2 = some r) ∧ Aside0 (kq ≤ k1) ∧ Aside0 (Kd.R Kd.string 9 w' w.heap.size (fun _ => True) v513 t512) ∧ Aside0 (Below w.heap.size w w'))
   case atStart => exact ⟨(x9_1), (0), vq_, vq_, H', ⟨Nat.le_refl _⟩, ⟨by refine mv_ ?_; exact Kd.R_mono HO_12.out (fun _ hk => trivial)⟩, ⟨bl_⟩⟩
   case round =>
    clear H'
    (try clear c1); (try clear c2); (try clear p2); (try clear c3); (try clear c4); (try clear p5); (try clear q5); (try clear hx5); (try clear p6); (try clear c18); (try clear c19); (try clear c19b0); (try clear c20); (try clear c20b0); (try clear c21); (try clear c21b0); (try clear c21b1); (try clear c21b2); (try clear hx515_0); (try clear p2); (try clear p515); (try clear p6); (try clear q515)
    obtain ⟨x9_2, x14_2, rfl, rfl, HA, HK2, HO_12, HB⟩ := hrel
    cases gk with
    | zero => exact absurd HA.out (by simp [Jr.l1])
    | succ k2 =>
     have H := HA.out
     clear HA
     simp only [Jr.l1] at H
     by_cases c24 : x14_2 < (t512.length : Int)
     ·rw [if_pos c24] at H
      have c24b0 : decide (x14_2 < (t512.length : Int)) = true := decide_eq_true c24
      clear c24
      revert H; refine nd_ fun c25 c25b0 => ne_ fun c26 c26b0 c26b1 H => ?_
      try have c26b2 : (9223372036854775807 < x9_2.size + (rdOf ByteArray.empty t512 x14_2).size) = False := eq_false (Nat.not_lt.2 c26)
      clear c25
      have H' := Aside0.mk H
      clear H
      obtain ⟨Ao27, co27, eo27⟩ := Kd.R_slice HO_12.out
      subst eo27
      have p516 : 0 ≤ (x14_2 : Int) := ae_
      have q516 : x14_2 < (t512.length : Int) := ae_
      obtain ⟨ad516, e516, hx516_0⟩ := Kd.at_string (Kd.R_reads' HO_12.out).2.2 x14_2 p516 q516
      cases e516
      replace p516 := eq_true p516
      replace q516 := eq_true q516
      go_wp2
      go_roundg k2
      case measure => have := HK1.out; have := HK2.out; omega
      case rel => exact ⟨(x9_2 ++ (rdOf ByteArray.empty t512 x14_2)), (wrap64 (x14_2 + 1)), vq_, vq_, H', ⟨by have := HK1.out; have := HK2.out; omega⟩, ⟨mv_ HO_12.out⟩, ⟨bl_⟩⟩
     rw [if_neg c24] at H
     have c24b0 : decide (x14_2 < (t512.length : Int)) = false := decide_eq_false c24
     clear c24
     obtain rfl := Option.some.inj H
     obtain ⟨Ao28, co28, eo28⟩ := Kd.R_slice HO_12.out
     subst eo28
     go_wp2
     go_ret
     exact ⟨er_, bl_⟩

-- NOT PRINTED: function 4 (palaverlaw06_EventSigns)

end Go.Proofs.YtdodghifojkclaaGreatDoor.PP
