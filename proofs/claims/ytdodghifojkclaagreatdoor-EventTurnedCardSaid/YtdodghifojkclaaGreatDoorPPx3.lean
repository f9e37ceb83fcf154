-- WRITTEN BY a program of this work (wip/ownprint.py), for this seat
import Derived.Test.YtdodghifojkclaaGreatDoorPPx0
import Derived.Test.YtdodghifojkclaaGreatDoorPPx1
import Derived.Test.YtdodghifojkclaaGreatDoorPPx2
namespace Go.Proofs.YtdodghifojkclaaGreatDoor.PP
open Go.RowKit Go.Proofs.YtdodghifojkclaaGreatDoorW.PrintWords Go.Proofs.YtdodghifojkclaaGreatDoorW.PrintLast Go.Proofs.YtdodghifojkclaaGreatDoorW.PrintMore
attribute [local go_sem] max2_int min2_int max_two min_two max_three min_three max_four min_four   -- for this text's walks alone
set_option linter.unusedVariables false
set_option linter.unusedSimpArgs false

/-! ### J3 = key_parts: function 56 -/
mutual
def J3.j0 : Nat → ByteArray → Int → Bool → Option (Int × List ByteArray × List ByteArray × Bool)
 | 0, _, _, _ => none
 | k + 1, x0, x6, x32 => if x32 = true then (some (0, ([] : List ByteArray), ([] : List ByteArray), false)) else ((U2.f x0).bind fun bt365 => ((Ug.f k bt365.1 bt365.2).bind fun bt368 => (J3.l0 k x6 bt368.1 ([] : List ByteArray) bt368.2.1 bt368.2.2)))
def J3.l0 : Nat → Int → Int → List ByteArray → ByteArray → Bool → Option (Int × List ByteArray × List ByteArray × Bool)
 | 0, _, _, _, _, _ => none
 | k + 1, x6, x8, x9, x368000, x368001 => (Ul.f x368000 x368001).bind fun bt371 => (if bt371.1 > 0 then ((Js.f k bt371.2.1 bt371.2.2 32).bind fun bt374 => (if x9.length < 8796093022208 then (J3.l0 k x6 x8 (x9 ++ [bt374.1]) bt374.2.1 bt374.2.2) else (none))) else (if 0 ≤ x6 then (if x8 ≥ (shl .i64 1 x6) then (some (0, ([] : List ByteArray), ([] : List ByteArray), false)) else (if 67 ≤ x9.length then (some (x8, x9.take 67, x9.drop 67, true)) else (none))) else (none)))
end
def J3.f (k : Nat) (a0 : ByteArray) : Option (Int × List ByteArray × List ByteArray × Bool) := if (a0.size : Int) < 2 then (J3.j0 k a0 (wrap64 ((wrap64 (Int.tdiv (wrap64 ((a0.size : Int) - 2)) 32)) - 67)) true) else (if (Int.tmod (wrap64 ((a0.size : Int) - 2)) 32) = 0 then (if (wrap64 ((wrap64 (Int.tdiv (wrap64 ((a0.size : Int) - 2)) 32)) - 67)) < 0 then (J3.j0 k a0 (wrap64 ((wrap64 (Int.tdiv (wrap64 ((a0.size : Int) - 2)) 32)) - 67)) true) else (J3.j0 k a0 (wrap64 ((wrap64 (Int.tdiv (wrap64 ((a0.size : Int) - 2)) 32)) - 67)) (decide ((wrap64 ((wrap64 (Int.tdiv (wrap64 ((a0.size : Int) - 2)) 32)) - 67)) > 4)))) else (J3.j0 k a0 (wrap64 ((wrap64 (Int.tdiv (wrap64 ((a0.size : Int) - 2)) 32)) - 67)) true))
set_option maxHeartbeats 64000000 in
set_option maxRecDepth 100000 in
theorem J3.calls (k : Nat) (a0 : ByteArray) (r1 : Int) (r2 : List ByteArray) (r3 : List ByteArray) (r4 : Bool) (w : World) (h : J3.f k a0 = some (r1, r2, r3, r4)) :
 Calls Tryz.prog 56 #[.string a0] w fun e w' => ∃ (A1_ A2_ : Option Addr) (c1_ c2_ : Nat), e = .returned (.tuple #[.int .i64 r1, .slice A1_ r2.length c1_, .slice A2_ r3.length c2_, .bool r4]) ∧ Kd.C Kd.string w' A1_ r2.length r2 ∧ r2.length ≤ c1_ ∧ Kd.C Kd.string w' A2_ r3.length r3 ∧ r3.length ≤ c2_ ∧ Below w.heap.size w w' := by
 have HB := Aside0.mk (Below.refl w.heap.size w)
 have H : (if (a0.size : Int) < 2 then (J3.j0 k a0 (wrap64 ((wrap64 (Int.tdiv (wrap64 ((a0.size : Int) - 2)) 32)) - 67)) true) else (if (Int.tmod (wrap64 ((a0.size : Int) - 2)) 32) = 0 then (if (wrap64 ((wrap64 (Int.tdiv (wrap64 ((a0.size : Int) - 2)) 32)) - 67)) < 0 then (J3.j0 k a0 (wrap64 ((wrap64 (Int.tdiv (wrap64 ((a0.size : Int) - 2)) 32)) - 67)) true) else (J3.j0 k a0 (wrap64 ((wrap64 (Int.tdiv (wrap64 ((a0.size : Int) - 2)) 32)) - 67)) (decide ((wrap64 ((wrap64 (Int.tdiv (wrap64 ((a0.size : Int) - 2)) 32)) - 67)) > 4)))) else (J3.j0 k a0 (wrap64 ((wrap64 (Int.tdiv (wrap64 ((a0.size : Int) - 2)) 32)) - 67)) true))) = some (r1, r2, r3, r4) := h
 clear h
 have HC2 := Aside0.mk H
 clear H
 go_enter Tryz.func56, Tryz.ntmps56
 go_upto_region 2 with (fail)
 repeat (go_quiet (fail); go_upto_region 2 with (fail))
 go_cut [32] (fun v32 wc => ∃ (kq : Nat) (x32_1 : Bool), v32 = .bool x32_1 ∧ Aside0 (J3.j0 kq a0 (wrap64 ((wrap64 (Int.tdiv (wrap64 ((a0.size : Int) - 2)) 32)) - 67)) x32_1 = some (r1, r2, r3, r4)) ∧ Aside0 (kq ≤ k) ∧ Aside0 (Below w.heap.size w wc))
 case first =>
  have H := HC2.out
  clear HC2
  by_cases c3 : (a0.size : Int) < 2
  ·rw [if_pos c3] at H
   have c3b0 : decide ((a0.size : Int) < 2) = true := decide_eq_true c3
   have c3b1 : decide (a0.size < 2) = true := decide_eq_true (by omega)
   clear c3
   (first | rw [c3b0] | (simp only [i64_w, i32_w]; rw [c3b0]) | skip)
   have H' := Aside0.mk H
   clear H
   go_wp2
   repeat (go_quiet (fail); try go_wp2)
   go_meet
   case rel => exact ⟨_, (true), vq_, H', ⟨by first | omega | exact Nat.le_refl _⟩, ⟨bl_⟩⟩
  rw [if_neg c3] at H
  have c3b0 : decide ((a0.size : Int) < 2) = false := decide_eq_false c3
  have c3b1 : decide (a0.size < 2) = false := decide_eq_false (by omega)
  clear c3
  (first | rw [c3b0] | (simp only [i64_w, i32_w]; rw [c3b0]) | skip)
  by_cases c4 : (Int.tmod (wrap64 ((a0.size : Int) - 2)) 32) = 0
  ·rw [if_pos c4] at H
   have c4b0 : ((Int.tmod (wrap64 ((a0.size : Int) - 2)) 32) == 0) = true := beq_iff_eq.mpr c4
   have c4b1 : ((Int.tmod (wrap64 ((a0.size : Int) - 2)) 32) != 0) = false := bne_eq_false_iff_eq.mpr c4
   clear c4
   by_cases c5 : (wrap64 ((wrap64 (Int.tdiv (wrap64 ((a0.size : Int) - 2)) 32)) - 67)) < 0
   ·rw [if_pos c5] at H
    have c5b0 : decide ((wrap64 ((wrap64 (Int.tdiv (wrap64 ((a0.size : Int) - 2)) 32)) - 67)) < 0) = true := decide_eq_true c5
    clear c5
    have H' := Aside0.mk H
    clear H
    go_wp2
    repeat (go_quiet (fail); try go_wp2)
    go_meet
    case rel => exact ⟨_, (true), vq_, H', ⟨by first | omega | exact Nat.le_refl _⟩, ⟨bl_⟩⟩
   rw [if_neg c5] at H
   have c5b0 : decide ((wrap64 ((wrap64 (Int.tdiv (wrap64 ((a0.size : Int) - 2)) 32)) - 67)) < 0) = false := decide_eq_false c5
   clear c5
   have H' := Aside0.mk H
   clear H
   go_wp2
   repeat (go_quiet (fail); try go_wp2)
   go_meet
   case rel => exact ⟨_, (decide ((wrap64 ((wrap64 (Int.tdiv (wrap64 ((a0.size : Int) - 2)) 32)) - 67)) > 4)), vq_, H', ⟨by first | omega | exact Nat.le_refl _⟩, ⟨bl_⟩⟩
  rw [if_neg c4] at H
  have c4b0 : ((Int.tmod (wrap64 ((a0.size : Int) - 2)) 32) == 0) = false := beq_eq_false_iff_ne.mpr c4
  have c4b1 : ((Int.tmod (wrap64 ((a0.size : Int) - 2)) 32) != 0) = true := bne_iff_ne.mpr c4
  have H' := Aside0.mk H
  clear H
  go_wp2
  repeat (go_quiet (fail); try go_wp2)
  go_meet
  case rel => exact ⟨_, (true), vq_, H', ⟨by first | omega | exact Nat.le_refl _⟩, ⟨bl_⟩⟩
 case rest =>
  clear HC2
  obtain ⟨kq, x32_1, rfl, HA, HJ1, HB⟩ := hcut
  cases kq with
  | zero => exact absurd HA.out (by simp [J3.j0])
  | succ kj1 =>
   have H := HA.out
   clear HA
   simp only [J3.j0] at H
   by_cases c6 : x32_1 = true
   ·subst c6
    have H1 : (some (0, ([] : List ByteArray), ([] : List ByteArray), false)) = some (r1, r2, r3, r4) := by rw [if_pos rfl] at H; exact H
    clear H
    have H := H1
    clear H1
    simp only [Option.some.injEq, Prod.mk.injEq] at H
    obtain ⟨rfl, rfl, rfl, rfl⟩ := H
    go_wp2
    repeat (go_quiet (fail); try go_wp2)
    refine bodyPost_ret (results_list (rs := [.tmp 2, .tmp 3, .tmp 4, .tmp 5]) rfl (by simp) (.tmp (.tmp (.tmp (.tmp .nil))))) rfl ?_
    exact ⟨none, none, 0, 0, er_, Kd.C_nil _ _, Nat.le_refl _, Kd.C_nil _ _, Nat.le_refl _, bl_⟩
   replace c6 := Bool.eq_false_iff.mpr c6
   subst c6
   have H1 : ((U2.f a0).bind fun bt365 => ((Ug.f kj1 bt365.1 bt365.2).bind fun bt368 => (J3.l0 kj1 (wrap64 ((wrap64 (Int.tdiv (wrap64 ((a0.size : Int) - 2)) 32)) - 67)) bt368.1 ([] : List ByteArray) bt368.2.1 bt368.2.2))) = some (r1, r2, r3, r4) := by rw [if_neg (show ¬ (false = true) by decide)] at H; exact H
   clear H
   have H := H1
   clear H1
   replace H := ob_ H
   obtain ⟨⟨t365, t366⟩, A70, H⟩ := H
   replace H : ((Ug.f kj1 t365 t366).bind fun bt368 => (J3.l0 kj1 (wrap64 ((wrap64 (Int.tdiv (wrap64 ((a0.size : Int) - 2)) 32)) - 67)) bt368.1 ([] : List ByteArray) bt368.2.1 bt368.2.2)) = some (r1, r2, r3, r4) := H
   have A7 := Aside0.mk A70
   clear A70
   replace H := ob_ H
   obtain ⟨⟨t368, t369, t370⟩, A80, H⟩ := H
   replace H : (J3.l0 kj1 (wrap64 ((wrap64 (Int.tdiv (wrap64 ((a0.size : Int) - 2)) 32)) - 67)) t368 ([] : List ByteArray) t369 t370) = some (r1, r2, r3, r4) := H
   have A8 := Aside0.mk A80
   clear A80
   have H' := Aside0.mk H
   clear H
   go_wp2_with (first | (go_at_call 86; (with_reducible refine (U2.calls a0 t365 t366 w _ ?side1 A7.out).mono ?_); (case side1 => repeat (first | (with_reducible first | exact HB.out | apply lA_ | apply lN_ | apply lD_) | exact HB.out)); rintro e w9 ⟨g367, rfl, hi, hb, hb2⟩; have HI367 := Aside0.mk (hi); replace HB := Aside0.mk (hb); clear hb hb2 hi) | (go_at_call 87; (with_reducible refine (Ug.calls kj1 g367 t365 t366 t368 t369 t370 w _ ?side1 ?side2 A8.out).mono ?_); (case side1 => repeat (first | (with_reducible first | exact HI367.out | apply IsS145.alloc | apply IsS145.drewN | apply IsS145.drew | apply IsS145.set_0 | apply IsS145.set_1) | exact HI367.out)); (case side2 => repeat (first | (with_reducible first | exact HB.out | apply lA_ | apply lN_ | apply lD_ | refine lS_ ?_ (IsS145.ge HI367.out)) | exact HB.out)); rintro e w10 ⟨rfl, hi, hb, hk⟩; replace HI367 := Aside0.mk (hi); replace HB := Aside0.mk (hb); clear hb hk hi))
   go_loopg [9] kj1 (fun kq v9 w' => ∃ (x9_2 : List ByteArray) (x368000_2 : ByteArray) (x368001_2 : Bool), Aside0 (J3.l0 kq (wrap64 ((wrap64 (Int.tdiv (wrap64 ((a0.size : Int) - 2)) 32)) - 67)) t368 x9_2 x368000_2 x368001_2 = some (r1, r2, r3, r4)) ∧ Aside0 (kq ≤ kj1) ∧ Aside0 (Kd.R Kd.string 9 w' w.heap.size (fun _ => True) v9 x9_2) ∧ Aside0 (IsS145 w w' g367 x368000_2 x368001_2) ∧ Aside0 (Below w.heap.size w w'))
   case atStart => exact ⟨(([] : List ByteArray)), (t369), (t370), H', ⟨Nat.le_refl _⟩, ⟨by first | exact Kd.R_nil _ _ _ _ _ | exact Kd.N_nil _ _ _ _ _ | exact Kd.V_nil _ _ _ _ _ | exact Kd.Q_nil _ _ _ _ _ | exact Kd.S_nil _ _ _ _ _⟩, ⟨by repeat (first | (with_reducible first | exact HI367.out | apply IsS145.alloc | apply IsS145.drewN | apply IsS145.drew | apply IsS145.set_0 | apply IsS145.set_1) | exact HI367.out)⟩, ⟨bs_ (IsS145.ge HI367.out)⟩⟩
   case round =>
    clear H'
    obtain ⟨x9_2, x368000_2, x368001_2, HA, HK2, HO_9, HI367, HB⟩ := hrel
    cases gk with
    | zero => exact absurd HA.out (by simp [J3.l0])
    | succ k2 =>
     have H := HA.out
     clear HA
     simp only [J3.l0] at H
     replace H := ob_ H
     obtain ⟨⟨t371, t372, t373⟩, A110, H⟩ := H
     replace H : (if t371 > 0 then ((Js.f k2 t372 t373 32).bind fun bt374 => (if x9_2.length < 8796093022208 then (J3.l0 k2 (wrap64 ((wrap64 (Int.tdiv (wrap64 ((a0.size : Int) - 2)) 32)) - 67)) t368 (x9_2 ++ [bt374.1]) bt374.2.1 bt374.2.2) else (none))) else (if 0 ≤ (wrap64 ((wrap64 (Int.tdiv (wrap64 ((a0.size : Int) - 2)) 32)) - 67)) then (if t368 ≥ (shl .i64 1 (wrap64 ((wrap64 (Int.tdiv (wrap64 ((a0.size : Int) - 2)) 32)) - 67))) then (some (0, ([] : List ByteArray), ([] : List ByteArray), false)) else (if 67 ≤ x9_2.length then (some (t368, x9_2.take 67, x9_2.drop 67, true)) else (none))) else (none))) = some (r1, r2, r3, r4) := H
     have A11 := Aside0.mk A110
     clear A110
     by_cases c12 : t371 > 0
     ·rw [if_pos c12] at H
      have c12b0 : decide (0 < t371) = true := decide_eq_true c12
      clear c12
      replace H := ob_ H
      obtain ⟨⟨t374, t375, t376⟩, A130, H⟩ := H
      replace H : (if x9_2.length < 8796093022208 then (J3.l0 k2 (wrap64 ((wrap64 (Int.tdiv (wrap64 ((a0.size : Int) - 2)) 32)) - 67)) t368 (x9_2 ++ [t374]) t375 t376) else (none)) = some (r1, r2, r3, r4) := H
      have A13 := Aside0.mk A130
      clear A130
      revert H; refine nc_ fun c14 H => ?_
      have LMc14 := Aside0.mk c14
      clear c14
      generalize e_ : (x9_2 ++ [t374] : List ByteArray) = y377 at H
      have Ny377 := Aside0.mk e_.symm
      clear e_
      have H' := Aside0.mk H
      clear H
      go_wp2_with (first | (go_at_call 88; (with_reducible refine (Ul.calls g367 x368000_2 x368001_2 t371 t372 t373 w _ ?side1 ?side2 A11.out).mono ?_); (case side1 => repeat (first | (with_reducible first | exact HI367.out | apply IsS145.alloc | apply IsS145.drewN | apply IsS145.drew | apply IsS145.set_0 | apply IsS145.set_1) | exact HI367.out)); (case side2 => repeat (first | (with_reducible first | exact HB.out | apply lA_ | apply lN_ | apply lD_ | refine lS_ ?_ (IsS145.ge HI367.out)) | exact HB.out)); rintro e w15 ⟨rfl, hi, hb, hk⟩; replace HB := Aside0.mk (hb); replace HO_9 := Aside0.mk (Kd.R_mono (Kd.R_keep (IsS145.apart (show IsS145 w _ g367 x368000_2 x368001_2 from by repeat (first | (with_reducible first | exact HI367.out | apply IsS145.alloc | apply IsS145.drewN | apply IsS145.drew | apply IsS145.set_0 | apply IsS145.set_1) | exact HI367.out)) (mv_ HO_9.out) (by decide)) hk (fun _ h => h.2)) (fun _ h => h.1)); replace HI367 := Aside0.mk (hi); clear hb hk hi) | (go_at_call 89; (with_reducible refine (Js.calls k2 g367 t372 t373 32 t374 t375 t376 w _ ?side1 ?side2 A13.out).mono ?_); (case side1 => repeat (first | (with_reducible first | exact HI367.out | apply IsS145.alloc | apply IsS145.drewN | apply IsS145.drew | apply IsS145.set_0 | apply IsS145.set_1) | exact HI367.out)); (case side2 => repeat (first | (with_reducible first | exact HB.out | apply lA_ | apply lN_ | apply lD_ | refine lS_ ?_ (IsS145.ge HI367.out)) | exact HB.out)); rintro e w16 ⟨rfl, hi, hb, hk⟩; replace HB := Aside0.mk (hb); replace HO_9 := Aside0.mk (Kd.R_mono (Kd.R_keep (IsS145.apart (show IsS145 w _ g367 t372 t373 from by repeat (first | (with_reducible first | exact HI367.out | apply IsS145.alloc | apply IsS145.drewN | apply IsS145.drew | apply IsS145.set_0 | apply IsS145.set_1) | exact HI367.out)) (mv_ HO_9.out) (by decide)) hk (fun _ h => h.2)) (fun _ h => h.1)); replace HI367 := Aside0.mk (hi); clear hb hk hi) | ((with_reducible refine gate_builtin (b := .append) (xs := #[.tmp 40, .tmp 43]) rfl ?_); ((refine gate_guard (by rfl) ?_; dsimp only)); at_builtin; refine Kd.R_append Kd.string (w0 := w) w.heap.size rfl (.tmp 40) (.tmp 43) 22 9 (.string ⟨#[]⟩) 16 rfl Tryz.underlying22 info9 rfl (by decide) (by omega) u9 x9_2 t374 [.string t374] (fun _ => True) (fun _ => False) rfl rfl ?aP (fun _ hk => hk.elim) ?aF ?aO ?aB ?aS ?aL ?_; (case aP => exact rfl); (case aB => exact (bs_ (IsS145.ge HI367.out))); (case aF => exact (fun _ _ => trivial)); (case aO => exact (mv_ HO_9.out)); (case aS => exact (below_size (bs_ (IsS145.ge HI367.out)))); (case aL => have := LMc14.out; omega); intro v378 w17 ho hb hg hat; rw [← Ny377.out] at ho; have HO379 := Aside0.mk (ho); replace HB := Aside0.mk (hb); replace HI367 := Aside0.mk (IsS145.grown (by repeat (first | (with_reducible first | exact HI367.out | apply IsS145.alloc | apply IsS145.drewN | apply IsS145.drew | apply IsS145.set_0 | apply IsS145.set_1) | exact HI367.out)) hg (IsS145.own_ne HI367.out HO_9.out (by decide))); clear HO_9; clear ho hb hg hat))
      go_roundg k2
      case measure => have := HJ1.out; have := HK2.out; omega
      case rel => exact ⟨(y377), (t375), (t376), H', ⟨by have := HJ1.out; have := HK2.out; omega⟩, ⟨mv_ HO379.out⟩, ⟨by repeat (first | (with_reducible first | exact HI367.out | apply IsS145.alloc | apply IsS145.drewN | apply IsS145.drew | apply IsS145.set_0 | apply IsS145.set_1) | exact HI367.out)⟩, ⟨bs_ (IsS145.ge HI367.out)⟩⟩
     rw [if_neg c12] at H
     have c12b0 : decide (0 < t371) = false := decide_eq_false c12
     clear c12
     generalize hji18 : (wrap64 ((wrap64 (Int.tdiv (wrap64 ((a0.size : Int) - 2)) 32)) - 67)) = ji18 at H
     have hji18w := (i64_w _).trans hji18
     revert H; refine ne_ fun c19 c19b0 c19b1 H => ?_
     clear c19
     generalize hji20 : (shl .i64 1 (ji18)) = ji20 at H
     have hji20_ : (IntKind.i64.wrap (1 * 2 ^ min (ji18).toNat 64)) = ji20 := hji20
     have hji20z : (ji18) ≤ 64 → (IntKind.i64.wrap (1 * 2 ^ (ji18).toNat)) = ji20 := shl_small hji20
     have hji20u : (IntKind.i64.wrap (2 ^ min (ji18).toNat 64)) = ji20 := by have h_ := hji20_; rw [Int.one_mul] at h_; exact h_
     have hji20v : (ji18) ≤ 64 → (IntKind.i64.wrap (2 ^ (ji18).toNat)) = ji20 := fun hle_ => by have h_ := hji20z hle_; rw [Int.one_mul] at h_; exact h_
     have hji20y : (wrap64 (1 * 2 ^ min (ji18).toNat 64)) = ji20 := (i64_w _).symm.trans hji20_
     have hji20x : (ji18) ≤ 64 → (wrap64 (1 * 2 ^ (ji18).toNat)) = ji20 := fun h_ => (i64_w _).symm.trans (hji20z h_)
     by_cases c21 : t368 ≥ (ji20)
     ·rw [if_pos c21] at H
      have c21b0 : decide ((ji20) ≤ t368) = true := decide_eq_true c21
      clear c21
      simp only [Option.some.injEq, Prod.mk.injEq] at H
      obtain ⟨rfl, rfl, rfl, rfl⟩ := H
      go_wp2_with (first | (go_at_call 88; (with_reducible refine (Ul.calls g367 x368000_2 x368001_2 t371 t372 t373 w _ ?side1 ?side2 A11.out).mono ?_); (case side1 => repeat (first | (with_reducible first | exact HI367.out | apply IsS145.alloc | apply IsS145.drewN | apply IsS145.drew | apply IsS145.set_0 | apply IsS145.set_1) | exact HI367.out)); (case side2 => repeat (first | (with_reducible first | exact HB.out | apply lA_ | apply lN_ | apply lD_ | refine lS_ ?_ (IsS145.ge HI367.out)) | exact HB.out)); rintro e w22 ⟨rfl, hi, hb, hk⟩; replace HB := Aside0.mk (hb); replace HO_9 := Aside0.mk (Kd.R_mono (Kd.R_keep (IsS145.apart (show IsS145 w _ g367 x368000_2 x368001_2 from by repeat (first | (with_reducible first | exact HI367.out | apply IsS145.alloc | apply IsS145.drewN | apply IsS145.drew | apply IsS145.set_0 | apply IsS145.set_1) | exact HI367.out)) (mv_ HO_9.out) (by decide)) hk (fun _ h => h.2)) (fun _ h => h.1)); replace HI367 := Aside0.mk (hi); clear hb hk hi))
      refine bodyPost_ret (results_list (rs := [.tmp 2, .tmp 3, .tmp 4, .tmp 5]) rfl (by simp) (.tmp (.tmp (.tmp (.tmp .nil))))) rfl ?_
      exact ⟨none, none, 0, 0, by first | rfl | (simp [errW_none, errW_some] <;> rfl) | (simp only [← hji18, ← hji20]; first | rfl | (simp [errW_none, errW_some] <;> rfl)) | (simp [*, errW_none, errW_some] <;> rfl), Kd.C_nil _ _, Nat.le_refl _, Kd.C_nil _ _, Nat.le_refl _, bs_ (IsS145.ge HI367.out)⟩
     rw [if_neg c21] at H
     have c21b0 : decide ((ji20) ≤ t368) = false := decide_eq_false c21
     clear c21
     have c67_ : 67 ≤ x9_2.length := by by_cases z_ : 67 ≤ x9_2.length <;> first | exact z_ | (rw [if_neg z_] at H; cases H)
     rw [if_pos c67_] at H
     obtain ⟨A_, c_, e_⟩ := Kd.R_slice HO_9.out
     subst e_
     have hc_ := (Kd.R_reads' HO_9.out).2.1
     obtain ⟨i0_, hi0_, _, hsz_, _⟩ := info_parts info9
     have k1_ := cut_to (P := Tryz.prog) 22 9 .i64 Tryz.underlying22 hi0_ A_ x9_2.length c_ 67 (by decide) (by omega) hc_
     have k2_ := cut_from (P := Tryz.prog) 22 9 .i64 Tryz.underlying22 hi0_ 1 hsz_ A_ x9_2.length c_ 67 (by decide) (by omega)
     obtain ⟨A2_, hA2_⟩ : ∃ z : Option Addr, (if c_ = 67 then A_ else A_.map (·.add (67 * 1))) = z := ⟨_, rfl⟩
     replace k2_ : ∀ W : World, (Instr.slice 22 (.slice A_ x9_2.length c_) (some (.int .i64 67)) none none).run Tryz.prog W = .ok (.slice A2_ (x9_2.length - 67) (c_ - 67)) W := by intro W; rw [k2_ W]; show Result.ok (Value.slice (if c_ = 67 then A_ else A_.map (·.add (67 * 1))) _ _) W = _; rw [hA2_]; rfl
     replace k1_ : ∀ W : World, (Instr.slice 22 (.slice A_ x9_2.length c_) none (some (.int .i64 67)) none).run Tryz.prog W = .ok (.slice A_ 67 c_) W := k1_
     simp only [Option.some.injEq, Prod.mk.injEq] at H
     obtain ⟨rfl, rfl, rfl, rfl⟩ := H
     go_wp2_with (first | (go_at_call 88; (with_reducible refine (Ul.calls g367 x368000_2 x368001_2 t371 t372 t373 w _ ?side1 ?side2 A11.out).mono ?_); (case side1 => repeat (first | (with_reducible first | exact HI367.out | apply IsS145.alloc | apply IsS145.drewN | apply IsS145.drew | apply IsS145.set_0 | apply IsS145.set_1) | exact HI367.out)); (case side2 => repeat (first | (with_reducible first | exact HB.out | apply lA_ | apply lN_ | apply lD_ | refine lS_ ?_ (IsS145.ge HI367.out)) | exact HB.out)); rintro e w23 ⟨rfl, hi, hb, hk⟩; replace HB := Aside0.mk (hb); replace HO_9 := Aside0.mk (Kd.R_mono (Kd.R_keep (IsS145.apart (show IsS145 w _ g367 x368000_2 x368001_2 from by repeat (first | (with_reducible first | exact HI367.out | apply IsS145.alloc | apply IsS145.drewN | apply IsS145.drew | apply IsS145.set_0 | apply IsS145.set_1) | exact HI367.out)) (mv_ HO_9.out) (by decide)) hk (fun _ h => h.2)) (fun _ h => h.1)); replace HI367 := Aside0.mk (hi); clear hb hk hi))
     repeat (go_quiet (fail); try go_wp2)
     refine bodyPost_ret (results_list (rs := [.tmp 2, .tmp 3, .tmp 4, .tmp 5]) rfl (by simp) (.tmp (.tmp (.tmp (.tmp .nil))))) rfl ?_
     have hC_ := (Kd.R_reads' HO_9.out).2.2
     have l1_ : (x9_2.take 67).length = 67 := by rw [List.length_take]; omega
     have l2_ : (x9_2.drop 67).length = x9_2.length - 67 := List.length_drop
     have hT_ := Kd.C_take (m := 67) hC_ c67_
     have hD_ := Kd.C_drop (m := 67) hC_ c67_ hc_
     rw [show (if c_ = 67 then A_ else A_.map (·.add (67 * Kd.string.sz))) = A2_ from hA2_] at hD_
     exact ⟨A_, A2_, c_, c_ - 67, by rw [l1_, l2_]; rfl, by (with_reducible repeat (first | apply Kd.C_alloc | apply Kd.C_drewN | apply Kd.C_drew)); exact hT_, by omega, by (with_reducible repeat (first | apply Kd.C_alloc | apply Kd.C_drewN | apply Kd.C_drew)); exact hD_, by omega, bs_ (IsS145.ge HI367.out)⟩

/-! ### Jw = wots_Recover: function 57 -/
mutual
def Jw.j0 : Nat → List ByteArray → List Int → Bool → Option (ByteArray × Bool)
 | 0, _, _, _ => none
 | k + 1, x1, x6, x22 => if x22 = true then (some ((⟨#[]⟩ : ByteArray), false)) else (Jw.l0 k x6 ([] : List ByteArray) x1 (x1.length : Int) 0)
def Jw.l0 : Nat → List Int → List ByteArray → List ByteArray → Int → Int → Option (ByteArray × Bool)
 | 0, _, _, _, _, _ => none
 | k + 1, x6, x8, x23, x24, x25 => if x25 < x24 then (if 0 ≤ x25 then (if x25 < (x23.length : Int) then (if x25 < (x6.length : Int) then ((J9.f k x25 (rdOf ByteArray.empty x23 x25) (wrap64 (15 - (rd x6 x25)))).bind fun t386 => (if x8.length < 8796093022208 then (Jw.l0 k x6 (x8 ++ [t386]) x23 x24 (wrap64 (x25 + 1))) else (none))) else (none)) else (none)) else (none)) else ((J5.f k 3 x8).bind fun t390 => (some (t390, true)))
end
def Jw.f (k : Nat) (a0 : ByteArray) (l1 : List ByteArray) : Option (ByteArray × Bool) := (Ub.f k a0).bind fun bt380 => (if bt380.2 = true then (Jw.j0 k l1 bt380.1 ((l1.length : Int) != 67)) else (Jw.j0 k l1 bt380.1 true))
set_option maxHeartbeats 64000000 in
set_option maxRecDepth 100000 in
theorem Jw.calls (k : Nat) (a0 : ByteArray) (A1 : Option Addr) (c1 : Nat) (l1 : List ByteArray) (r1 : ByteArray) (r2 : Bool) (w : World) (hr1 : Kd.C Kd.string w A1 l1.length l1) (hc1 : l1.length ≤ c1) (hrG : Kd.C (Kd.int .u32) w (some ⟨0, 0, none⟩) keysL.length keysL) (h : Jw.f k a0 l1 = some (r1, r2)) :
 Calls Tryz.prog 57 #[.string a0, .slice A1 l1.length c1] w fun e w' => e = .returned (.tuple #[.string r1, .bool r2]) ∧ Below w.heap.size w w' := by
 have HR1 := Aside0.mk hr1
 have HC1 := Aside0.mk hc1
 clear hr1 hc1
 have HRG := Aside0.mk hrG
 clear hrG
 have HB := Aside0.mk (Below.refl w.heap.size w)
 have H : ((Ub.f k a0).bind fun bt380 => (if bt380.2 = true then (Jw.j0 k l1 bt380.1 ((l1.length : Int) != 67)) else (Jw.j0 k l1 bt380.1 true))) = some (r1, r2) := h
 clear h
 replace H := ob_ H
 obtain ⟨⟨t380, t381⟩, A30, H⟩ := H
 replace H : (if t381 = true then (Jw.j0 k l1 t380 ((l1.length : Int) != 67)) else (Jw.j0 k l1 t380 true)) = some (r1, r2) := H
 have A3 := Aside0.mk A30
 clear A30
 have HC4 := Aside0.mk H
 clear H
 go_enter Tryz.func57, Tryz.ntmps57
 go_upto_region 2 with (first | ((with_reducible refine gate_callee (f := 82) rfl ?_); refine gL_ 13 Tryz.func82 #[.string a0] ?_; (with_reducible refine (Ub.calls k a0 t380 t381 _ A3.out).mono ?_); rintro e w5 ⟨v382, rfl, ho0, hb⟩; refine ⟨_, rfl, ?_⟩; have HO383 := Aside0.mk (Kd.R_lower ho0 (below_size bl_)); replace HB := Aside0.mk (below_step bl_ hb); clear hb ho0))
 go_cut [22] (fun v22 wc => ∃ (kq : Nat) (x22_3 : Bool), v22 = .bool x22_3 ∧ Aside0 (Jw.j0 kq l1 t380 x22_3 = some (r1, r2)) ∧ Aside0 (kq ≤ k) ∧ Aside0 (Kd.R (Kd.int .i64) 3 wc w.heap.size (fun _ => True) v382 t380) ∧ Aside0 (Below w.heap.size w wc))
 case first =>
  have H := HC4.out
  clear HC4
  by_cases c6 : t381 = true
  ·subst c6
   have H1 : (Jw.j0 k l1 t380 ((l1.length : Int) != 67)) = some (r1, r2) := by rw [if_pos rfl] at H; exact H
   clear H
   have H := H1
   clear H1
   have H' := Aside0.mk H
   clear H
   go_wp2
   go_meet
   case rel => exact ⟨_, (((l1.length : Int) != 67)), vq_, H', ⟨by first | omega | exact Nat.le_refl _⟩, ⟨mv_ HO383.out⟩, ⟨bl_⟩⟩
  replace c6 := Bool.eq_false_iff.mpr c6
  subst c6
  have H1 : (Jw.j0 k l1 t380 true) = some (r1, r2) := by rw [if_neg (show ¬ (false = true) by decide)] at H; exact H
  clear H
  have H := H1
  clear H1
  have H' := Aside0.mk H
  clear H
  go_wp2
  go_meet
  case rel => exact ⟨_, (true), vq_, H', ⟨by first | omega | exact Nat.le_refl _⟩, ⟨mv_ HO383.out⟩, ⟨bl_⟩⟩
 case rest =>
  clear HC4
  obtain ⟨kq, x22_3, rfl, HA, HJ3, HO_6, HB⟩ := hcut
  cases kq with
  | zero => exact absurd HA.out (by simp [Jw.j0])
  | succ kj3 =>
   have H := HA.out
   clear HA
   simp only [Jw.j0] at H
   by_cases c7 : x22_3 = true
   ·subst c7
    have H1 : (some ((⟨#[]⟩ : ByteArray), false)) = some (r1, r2) := by rw [if_pos rfl] at H; exact H
    clear H
    have H := H1
    clear H1
    simp only [Option.some.injEq, Prod.mk.injEq] at H
    obtain ⟨rfl, rfl⟩ := H
    go_wp2
    go_ret2
    exact ⟨er_, bl_⟩
   replace c7 := Bool.eq_false_iff.mpr c7
   subst c7
   have H1 : (Jw.l0 kj3 t380 ([] : List ByteArray) l1 (l1.length : Int) 0) = some (r1, r2) := by rw [if_neg (show ¬ (false = true) by decide)] at H; exact H
   clear H
   have H := H1
   clear H1
   have H' := Aside0.mk H
   clear H
   go_wp2
   go_loopg [8, 25] kj3 (fun kq v8 v25 w' => ∃ (x8_2 : List ByteArray) (x25_2 : Int), v25 = .int .i64 x25_2 ∧ Aside0 (Jw.l0 kq t380 x8_2 l1 (l1.length : Int) x25_2 = some (r1, r2)) ∧ Aside0 (kq ≤ kj3) ∧ Aside0 (Kd.R (Kd.int .i64) 3 w' w.heap.size (fun _ => True) v382 t380) ∧ Aside0 (Kd.R Kd.string 9 w' w.heap.size (fun _ => True) v8 x8_2) ∧ Aside0 (Below w.heap.size w w'))
   case atStart => exact ⟨(([] : List ByteArray)), (0), vq_, H', ⟨Nat.le_refl _⟩, ⟨mv_ HO_6.out⟩, ⟨by first | exact Kd.R_nil _ _ _ _ _ | exact Kd.N_nil _ _ _ _ _ | exact Kd.V_nil _ _ _ _ _ | exact Kd.Q_nil _ _ _ _ _ | exact Kd.S_nil _ _ _ _ _⟩, ⟨bl_⟩⟩
   case round =>
    clear H'
    obtain ⟨x8_2, x25_2, rfl, HA, HK2, HO_6, HO_8, HB⟩ := hrel
    cases gk with
    | zero => exact absurd HA.out (by simp [Jw.l0])
    | succ k2 =>
     have H := HA.out
     clear HA
     simp only [Jw.l0] at H
     by_cases c8 : x25_2 < (l1.length : Int)
     ·rw [if_pos c8] at H
      have c8b0 : decide (x25_2 < (l1.length : Int)) = true := decide_eq_true c8
      clear c8
      revert H; refine nd_ fun c9 c9b0 => nd_ fun c10 c10b0 => nd_ fun c11 c11b0 => oa_ fun t386 A12 => nc_ fun c13 H => ?_
      have LMc13 := Aside0.mk c13
      clear c9 c10 c11 c13
      generalize e_ : (x8_2 ++ [t386] : List ByteArray) = y387 at H
      have Ny387 := Aside0.mk e_.symm
      clear e_
      have H' := Aside0.mk H
      clear H
      have p384 : 0 ≤ (x25_2 : Int) := ae_
      have q384 : x25_2 < (l1.length : Int) := ae_
      obtain ⟨ad384, e384, hx384_0⟩ := Kd.at_string HR1.out x25_2 p384 q384
      cases e384
      replace hx384_0 := (HB.out.cell (World.block_lt_of_cell? w _ hx384_0)).trans hx384_0
      replace p384 := eq_true p384
      replace q384 := eq_true q384
      obtain ⟨Ao14, co14, eo14⟩ := Kd.R_slice HO_6.out
      subst eo14
      have p385 : 0 ≤ (x25_2 : Int) := ae_
      have q385 : x25_2 < (t380.length : Int) := ae_
      obtain ⟨ad385, e385, hx385_0⟩ := Kd.at_int (Kd.R_reads' HO_6.out).2.2 x25_2 p385 q385
      cases e385
      replace p385 := eq_true p385
      replace q385 := eq_true q385
      go_wp2_with (first | ((with_reducible refine gate_callee (f := 90) rfl ?_); refine gL_ 38 Tryz.func90 #[.int .i64 x25_2, .string (rdOf ByteArray.empty l1 x25_2), .int .i64 (wrap64 (15 - (rd t380 x25_2)))] ?_; (with_reducible refine (J9.calls k2 x25_2 (rdOf ByteArray.empty l1 x25_2) (wrap64 (15 - (rd t380 x25_2))) t386 _ ?side1 A12.out).mono ?_); (case side1 => repeat (first | exact (Kd.C_below HRG.out HB.out) | (with_reducible refine Kd.C_alloc ?_ _) | (with_reducible refine Kd.C_drewN ?_ _) | (with_reducible refine Kd.C_drew ?_))); rintro e w15 ⟨rfl, hb⟩; refine ⟨_, rfl, ?_⟩; replace HB := Aside0.mk (below_step bl_ hb); replace HO_8 := Aside0.mk (Kd.R_below (mv_ HO_8.out) hb); replace HO_6 := Aside0.mk (Kd.R_below (mv_ HO_6.out) hb); clear hb) | ((with_reducible refine gate_builtin (b := .append) (xs := #[.tmp 30, .tmp 39]) rfl ?_); ((refine gate_guard (by rfl) ?_; dsimp only)); at_builtin; refine Kd.R_append Kd.string (w0 := w) w.heap.size rfl (.tmp 30) (.tmp 39) 22 9 (.string ⟨#[]⟩) 16 rfl Tryz.underlying22 info9 rfl (by decide) (by omega) u8 x8_2 t386 [.string t386] (fun _ => True) (fun _ => False) rfl rfl ?aP (fun _ hk => hk.elim) ?aF ?aO ?aB ?aS ?aL ?_; (case aP => exact rfl); (case aB => exact bl_); (case aF => exact (fun _ _ => trivial)); (case aO => exact (mv_ HO_8.out)); (case aS => exact (below_size bl_)); (case aL => have := LMc13.out; omega); intro v388 w16 ho hb hg hat; rw [← Ny387.out] at ho; have HO389 := Aside0.mk (ho); replace HB := Aside0.mk (hb); replace HO_6 := Aside0.mk (Kd.R_over' (mv_ HO_6.out) (Kd.R_typed (mv_ HO_8.out)) (by decide) hg); clear HO_8; clear ho hb hg hat))
      go_roundg k2
      case measure => have := HJ3.out; have := HK2.out; omega
      case rel => exact ⟨(y387), (wrap64 (x25_2 + 1)), vq_, H', ⟨by have := HJ3.out; have := HK2.out; omega⟩, ⟨mv_ HO_6.out⟩, ⟨mv_ HO389.out⟩, ⟨bl_⟩⟩
     rw [if_neg c8] at H
     have c8b0 : decide (x25_2 < (l1.length : Int)) = false := decide_eq_false c8
     clear c8
     revert H; refine oa_ fun t390 A17 H => ?_
     simp only [Option.some.injEq, Prod.mk.injEq] at H
     obtain ⟨rfl, rfl⟩ := H
     obtain ⟨Ao18, co18, eo18⟩ := Kd.R_slice HO_8.out
     subst eo18
     go_wp2_with (first | ((with_reducible refine gate_callee (f := 45) rfl ?_); refine gL_ 43 Tryz.func45 #[.int .i64 3, .slice Ao18 x8_2.length co18] ?_; (with_reducible refine (J5.calls k2 3 _ _ x8_2 t390 _ ?side1 ?side2 ?side3 A17.out).mono ?_); (case side1 => repeat (first | exact (Kd.R_reads' HO_8.out).2.2 | (with_reducible refine Kd.C_alloc ?_ _) | (with_reducible refine Kd.C_drewN ?_ _) | (with_reducible refine Kd.C_drew ?_))); (case side2 => exact (Kd.R_reads' HO_8.out).2.1); (case side3 => repeat (first | exact (Kd.C_below HRG.out HB.out) | (with_reducible refine Kd.C_alloc ?_ _) | (with_reducible refine Kd.C_drewN ?_ _) | (with_reducible refine Kd.C_drew ?_))); rintro e w19 ⟨rfl, hb⟩; refine ⟨_, rfl, ?_⟩; replace HB := Aside0.mk (below_step bl_ hb); replace HO_8 := Aside0.mk (Kd.R_below (mv_ HO_8.out) hb); replace HO_6 := Aside0.mk (Kd.R_below (mv_ HO_6.out) hb); clear hb))
     go_ret2
     exact ⟨er_, bl_⟩

/-! ### J0 = merkle_Fold: function 58 -/
mutual
def J0.j0 : Nat → ByteArray → Int → List ByteArray → Bool → Option (ByteArray × Bool)
 | 0, _, _, _, _ => none
 | k + 1, x0, x1, x2, x24 => if x24 = true then (some ((⟨#[]⟩ : ByteArray), false)) else (J0.l0 k x0 x1 x2 (x2.length : Int) 0)
def J0.l0 : Nat → ByteArray → Int → List ByteArray → Int → Int → Option (ByteArray × Bool)
 | 0, _, _, _, _, _ => none
 | k + 1, x0, x1, x25, x26, x27 => if x27 < x26 then (if 0 ≤ x27 then (if x27 < (x25.length : Int) then ((some (List.replicate 2 (⟨#[]⟩ : ByteArray) : List ByteArray)).bind fun y392 => (if y392.length = 2 then (if 0 < (y392.length : Int) then (if (Go.bits .and .i64 x1 1) = 1 then ((J5.f k 4 ([rdOf ByteArray.empty x25 x27, x0])).bind fun t397 => (J0.l0 k t397 (x1 / 2) x25 x26 (wrap64 (x27 + 1)))) else ((J5.f k 4 ([x0, rdOf ByteArray.empty x25 x27])).bind fun t398 => (J0.l0 k t398 (x1 / 2) x25 x26 (wrap64 (x27 + 1))))) else (none)) else (none))) else (none)) else (none)) else (some (x0, true))
end
def J0.f (k : Nat) (a0 : ByteArray) (a1 : Int) (l2 : List ByteArray) : Option (ByteArray × Bool) := if (l2.length : Int) > 4 then (J0.j0 k a0 a1 l2 true) else (if a1 < 0 then (J0.j0 k a0 a1 l2 true) else (J0.j0 k a0 a1 l2 (decide (a1 ≥ (shl .i64 1 (l2.length : Int))))))
set_option maxHeartbeats 64000000 in
set_option maxRecDepth 100000 in
theorem J0.calls (k : Nat) (a0 : ByteArray) (a1 : Int) (A2 : Option Addr) (c2 : Nat) (l2 : List ByteArray) (r1 : ByteArray) (r2 : Bool) (w : World) (hr2 : Kd.C Kd.string w A2 l2.length l2) (hc2 : l2.length ≤ c2) (hrG : Kd.C (Kd.int .u32) w (some ⟨0, 0, none⟩) keysL.length keysL) (h : J0.f k a0 a1 l2 = some (r1, r2)) :
 Calls Tryz.prog 58 #[.string a0, .int .i64 a1, .slice A2 l2.length c2] w fun e w' => e = .returned (.tuple #[.string r1, .bool r2]) ∧ Below w.heap.size w w' := by
 have hu128 := Tryz.underlying128
 have HR2 := Aside0.mk hr2
 have HC2 := Aside0.mk hc2
 clear hr2 hc2
 have HRG := Aside0.mk hrG
 clear hrG
 have HB := Aside0.mk (Below.refl w.heap.size w)
 have H : (if (l2.length : Int) > 4 then (J0.j0 k a0 a1 l2 true) else (if a1 < 0 then (J0.j0 k a0 a1 l2 true) else (J0.j0 k a0 a1 l2 (decide (a1 ≥ (shl .i64 1 (l2.length : Int))))))) = some (r1, r2) := h
 clear h
 have HC4 := Aside0.mk H
 clear H
 go_enter Tryz.func58, Tryz.ntmps58
 go_upto_region 1 with (fail)
 go_cut [24] (fun v24 wc => ∃ (kq : Nat) (x24_3 : Bool), v24 = .bool x24_3 ∧ Aside0 (J0.j0 kq a0 a1 l2 x24_3 = some (r1, r2)) ∧ Aside0 (kq ≤ k) ∧ Aside0 (Below w.heap.size w wc))
 case first =>
  have H := HC4.out
  clear HC4
  by_cases c5 : (l2.length : Int) > 4
  ·rw [if_pos c5] at H
   have c5b0 : decide (4 < (l2.length : Int)) = true := decide_eq_true c5
   have c5b1 : decide (4 < l2.length) = true := decide_eq_true (by omega)
   clear c5
   (first | rw [c5b0] | (simp only [i64_w, i32_w]; rw [c5b0]) | skip)
   have H' := Aside0.mk H
   clear H
   go_wp2
   go_meet
   case rel => exact ⟨_, (true), vq_, H', ⟨by first | omega | exact Nat.le_refl _⟩, ⟨bl_⟩⟩
  rw [if_neg c5] at H
  have c5b0 : decide (4 < (l2.length : Int)) = false := decide_eq_false c5
  have c5b1 : decide (4 < l2.length) = false := decide_eq_false (by omega)
  clear c5
  (first | rw [c5b0] | (simp only [i64_w, i32_w]; rw [c5b0]) | skip)
  by_cases c6 : a1 < 0
  ·rw [if_pos c6] at H
   have c6b0 : decide (a1 < 0) = true := decide_eq_true c6
   clear c6
   have H' := Aside0.mk H
   clear H
   go_wp2
   go_meet
   case rel => exact ⟨_, (true), vq_, H', ⟨by first | omega | exact Nat.le_refl _⟩, ⟨bl_⟩⟩
  rw [if_neg c6] at H
  have c6b0 : decide (a1 < 0) = false := decide_eq_false c6
  clear c6
  generalize hji7 : (shl .i64 1 (l2.length : Int)) = ji7 at H
  have hji7_ : (IntKind.i64.wrap (1 * 2 ^ min (l2.length : Int).toNat 64)) = ji7 := hji7
  have hji7z : (l2.length : Int) ≤ 64 → (IntKind.i64.wrap (1 * 2 ^ (l2.length : Int).toNat)) = ji7 := shl_small hji7
  (have hji7n : (0 ≤ (l2.length : Int)) = True := eq_true (by omega))
  have hji7p : (IntKind.i64.wrap (1 * 2 ^ min l2.length 64)) = ji7 := hji7_
  have hji7q : (l2.length : Int) ≤ 64 → (IntKind.i64.wrap (1 * 2 ^ l2.length)) = ji7 := hji7z
  have hji7r : (IntKind.i64.wrap (2 ^ min l2.length 64)) = ji7 := by have h_ := hji7p; rw [Int.one_mul] at h_; exact h_
  have hji7s : (l2.length : Int) ≤ 64 → (IntKind.i64.wrap (2 ^ l2.length)) = ji7 := fun hle_ => by have h_ := hji7q hle_; rw [Int.one_mul] at h_; exact h_
  have hji7u : (IntKind.i64.wrap (2 ^ min (l2.length : Int).toNat 64)) = ji7 := by have h_ := hji7_; rw [Int.one_mul] at h_; exact h_
  have hji7v : (l2.length : Int) ≤ 64 → (IntKind.i64.wrap (2 ^ (l2.length : Int).toNat)) = ji7 := fun hle_ => by have h_ := hji7z hle_; rw [Int.one_mul] at h_; exact h_
  have hji7y : (wrap64 (1 * 2 ^ min (l2.length : Int).toNat 64)) = ji7 := (i64_w _).symm.trans hji7_
  have hji7x : (l2.length : Int) ≤ 64 → (wrap64 (1 * 2 ^ (l2.length : Int).toNat)) = ji7 := fun h_ => (i64_w _).symm.trans (hji7z h_)
  have H' := Aside0.mk H
  clear H
  go_wp2
  go_meet
  case rel => exact ⟨_, (decide (a1 ≥ (ji7))), (by first | rfl | (simp; done) | (simp only [← hji7] <;> (first | rfl | simp)) | (simp [*]; done) | exact congrArg Value.bool (nonempty_l _) | (refine congrArg (Value.int _) ?_; first | omega | (unfold wrap64; omega))), H', ⟨by first | omega | exact Nat.le_refl _⟩, ⟨bl_⟩⟩
 case rest =>
  clear HC4
  obtain ⟨kq, x24_3, rfl, HA, HJ3, HB⟩ := hcut
  cases kq with
  | zero => exact absurd HA.out (by simp [J0.j0])
  | succ kj3 =>
   have H := HA.out
   clear HA
   simp only [J0.j0] at H
   by_cases c8 : x24_3 = true
   ·subst c8
    have H1 : (some ((⟨#[]⟩ : ByteArray), false)) = some (r1, r2) := by rw [if_pos rfl] at H; exact H
    clear H
    have H := H1
    clear H1
    simp only [Option.some.injEq, Prod.mk.injEq] at H
    obtain ⟨rfl, rfl⟩ := H
    go_wp2
    go_ret2
    exact ⟨er_, bl_⟩
   replace c8 := Bool.eq_false_iff.mpr c8
   subst c8
   have H1 : (J0.l0 kj3 a0 a1 l2 (l2.length : Int) 0) = some (r1, r2) := by rw [if_neg (show ¬ (false = true) by decide)] at H; exact H
   clear H
   have H := H1
   clear H1
   have H' := Aside0.mk H
   clear H
   go_wp2
   go_loopg [0, 1, 27] kj3 (fun kq v0 v1 v27 w' => ∃ (x0_2 : ByteArray) (x1_2 : Int) (x27_2 : Int), v0 = .string x0_2 ∧ v1 = .int .i64 x1_2 ∧ v27 = .int .i64 x27_2 ∧ Aside0 (J0.l0 kq x0_2 x1_2 l2 (l2.length : Int) x27_2 = some (r1, r2)) ∧ Aside0 (kq ≤ kj3) ∧ Aside0 (Below w.heap.size w w'))
   case atStart => exact ⟨(a0), (a1), (0), vq_, vq_, vq_, H', ⟨Nat.le_refl _⟩, ⟨bl_⟩⟩
   case round =>
    clear H'
    obtain ⟨x0_2, x1_2, x27_2, rfl, rfl, rfl, HA, HK2, HB⟩ := hrel
    cases gk with
    | zero => exact absurd HA.out (by simp [J0.l0])
    | succ k2 =>
     have H := HA.out
     clear HA
     simp only [J0.l0] at H
     by_cases c9 : x27_2 < (l2.length : Int)
     ·rw [if_pos c9] at H
      have c9b0 : decide (x27_2 < (l2.length : Int)) = true := decide_eq_true c9
      clear c9
      revert H; refine nd_ fun c10 c10b0 => nd_ fun c11 c11b0 => oy_ fun y392 Ny392 => ne_ fun c12 c12b0 c12b1 => nd_ fun c13 c13b0 H => ?_
      have c13b1 : decide (0 < y392.length) = true := decide_eq_true (by omega)
      clear c10 c11 c12 c13
      generalize e_ : ([x0_2, rdOf ByteArray.empty l2 x27_2] : List ByteArray) = y395 at H
      have Ny395 := Aside0.mk e_.symm
      clear e_
      by_cases c15 : (Go.bits .and .i64 x1_2 1) = 1
      ·rw [if_pos c15] at H
       have c15b0 : ((Go.bits .and .i64 x1_2 1) == 1) = true := beq_iff_eq.mpr c15
       have c15b1 : ((Go.bits .and .i64 x1_2 1) != 1) = false := bne_eq_false_iff_eq.mpr c15
       clear c15
       generalize e_ : ([rdOf ByteArray.empty l2 x27_2, x0_2] : List ByteArray) = y396 at H
       have Ny396 := Aside0.mk e_.symm
       clear e_
       revert H; refine oa_ fun t397 A18 H => ?_
       have H' := Aside0.mk H
       clear H
       have p391 : 0 ≤ (x27_2 : Int) := ae_
       have q391 : x27_2 < (l2.length : Int) := ae_
       obtain ⟨ad391, e391, hx391_0⟩ := Kd.at_string HR2.out x27_2 p391 q391
       cases e391
       replace hx391_0 := (HB.out.cell (World.block_lt_of_cell? w _ hx391_0)).trans hx391_0
       replace p391 := eq_true p391
       replace q391 := eq_true q391
       go_wp2_with (first | ((with_reducible refine gate_dst (N := 10) rfl ?_); ((refine gate_guard (by rfl) ?_; dsimp only)); refine R_arr Value.string (fun _ => rfl) _ 128 ?hg (N := 10) ?hd (List.replicate 2 (⟨#[]⟩ : ByteArray)) ?hr (Below.refl _ _) (Nat.le_refl _) (by decide) ?_; (case hd => rfl); (case hg => rfl); (case hr => exact gr_); intro v393 w19 ho20 hb hg_ hnew_; clear hg_ hnew_; (first | rw [← Ny392.out] at ho20 | (simp only [Int.reduceToNat] at ho20; rw [← Ny392.out] at ho20)); have HO394 := Aside0.mk (Kd.R_lower ho20 (below_size bl_)); replace HB := Aside0.mk (below_step bl_ hb); clear hb ho20; have qa14 : ((0 : Int) < (2 : Int)) = True := eq_true (by have e_ : y392.length = 2 := ae_; have h_ : (0 : Int) < ((y392.length : Int) : Int) := ae_; omega); have p14 : 0 ≤ (0 : Int) := (by omega); have q14 : (0 : Int) < ((y392.length : Int) : Int) := ae_; have qi14 : (0 < y392.length) = True := eq_true (by omega); obtain ⟨go14, co14, eo14, gb14, gl14, cl14, HG14⟩ := Kd.R_form HO394.out (by omega); (first | cases eo14 | (injection eo14 with ea_ en_ ec_; (first | subst ea_ | (injection ea_ with ea_; subst ea_)); subst ec_; clear en_)); have GB14 := Aside0.mk gb14; have GG14 := Aside0.mk HG14; clear gb14 gl14 HG14; obtain ⟨hx14_0, hf14_0⟩ := Kd.R_celln (⟨#[]⟩ : ByteArray) HO394.out (0 : Int) p14 q14; (rw [show ((0 : Int)).toNat = 0 from rfl] at hx14_0); (rw [show ((0 : Int)).toNat = 0 from rfl] at hf14_0); replace p14 := eq_true p14; replace q14 := eq_true q14; have HP21 := R_whole (ys := [x0_2, rdOf ByteArray.empty l2 x27_2]) HO394.out (by have e_ : y392.length = 2 := ae_; have e2_ := (Kd.R_reads' HO394.out).1; first | (rw [e_]; rfl) | (simp only [List.length_cons, List.length_nil]; omega))) | ((with_reducible refine gate_store (t := 128) (p := 10) rfl ?_); refine store_event (t := 128) (p := 10) (v := ?vo_w22) (w1 := (w19.setCells go14 0 (encs Value.string [x0_2, rdOf ByteArray.empty l2 x27_2]))) ?hg ?ho ?hn ?hr ?_; (case ho => rfl); (case hg => rfl); (case hn => rfl); (case hr => exact whole_run (ys := [x0_2, rdOf ByteArray.empty l2 x27_2]) rfl rfl rfl (by kernel_rfl) HO394.out (by have e_ : y392.length = 2 := ae_; have e2_ := (Kd.R_reads' HO394.out).1; first | (rw [e_]; rfl) | (simp only [List.length_cons, List.length_nil]; omega))); intro w22 hw; have hg : w19.grownBy w22 (some go14) := (by rw [hw]; exact HP21.2); have hp_ : Kd.R Kd.string 128 w22 w.heap.size (fun _ => True) (.slice (some ⟨go14, 0, none⟩) y392.length co14) y395 := (by rw [hw, Ny395.out]; exact HP21.1); clear HP21; replace HB := Aside0.mk ((Below.grown HB.out hg (below_size HB.out) (fun k_ e_ => (Option.some.inj e_) ▸ GB14.out) : Below w.heap.size w w22)); replace HO394 := Aside0.mk (hp_); clear hg hw hp_; have qa16 : ((0 : Int) < (2 : Int)) = True := eq_true (by have e_ : y392.length = 2 := ae_; have h_ : (0 : Int) < ((y392.length : Int) : Int) := ae_; omega); have p16 : 0 ≤ (0 : Int) := (by omega); have q16 : (0 : Int) < ((y392.length : Int) : Int) := ae_; have qi16 : (0 < y392.length) = True := eq_true (by omega); obtain ⟨hx16_0, hf16_0⟩ := Kd.R_celln (⟨#[]⟩ : ByteArray) HO394.out (0 : Int) p16 q16; (rw [show ((0 : Int)).toNat = 0 from rfl] at hx16_0); (rw [show ((0 : Int)).toNat = 0 from rfl] at hf16_0); replace p16 := eq_true p16; replace q16 := eq_true q16; have HP23 := R_whole (ys := [rdOf ByteArray.empty l2 x27_2, x0_2]) HO394.out (by have e_ : y392.length = 2 := ae_; have e2_ := (Kd.R_reads' HO394.out).1; first | (rw [e_]; rfl) | (simp only [List.length_cons, List.length_nil]; omega))) | ((with_reducible refine gate_store (t := 128) (p := 10) rfl ?_); refine store_event (t := 128) (p := 10) (v := ?vo_w24) (w1 := (w22.setCells go14 0 (encs Value.string [rdOf ByteArray.empty l2 x27_2, x0_2]))) ?hg ?ho ?hn ?hr ?_; (case ho => rfl); (case hg => rfl); (case hn => rfl); (case hr => exact whole_run (ys := [rdOf ByteArray.empty l2 x27_2, x0_2]) rfl rfl rfl (by kernel_rfl) HO394.out (by have e_ : y392.length = 2 := ae_; have e2_ := (Kd.R_reads' HO394.out).1; first | (rw [e_]; rfl) | (simp only [List.length_cons, List.length_nil]; omega))); intro w24 hw; have hg : w22.grownBy w24 (some go14) := (by rw [hw]; exact HP23.2); have hp_ : Kd.R Kd.string 128 w24 w.heap.size (fun _ => True) (.slice (some ⟨go14, 0, none⟩) y392.length co14) y396 := (by rw [hw, Ny396.out]; exact HP23.1); clear HP23; replace HB := Aside0.mk ((Below.grown HB.out hg (below_size HB.out) (fun k_ e_ => (Option.some.inj e_) ▸ GB14.out) : Below w.heap.size w w24)); replace HO394 := Aside0.mk (hp_); clear hg hw hp_; have qa17 : ((0 : Int) < (2 : Int)) = True := eq_true (by have e_ : y392.length = 2 := ae_; have h_ : (0 : Int) < ((y392.length : Int) : Int) := ae_; omega); have p17 : 0 ≤ (0 : Int) := (by omega); have q17 : (0 : Int) < ((y392.length : Int) : Int) := ae_; have qi17 : (0 < y392.length) = True := eq_true (by omega); obtain ⟨hx17_0, hf17_0⟩ := Kd.R_celln (⟨#[]⟩ : ByteArray) HO394.out (0 : Int) p17 q17; (rw [show ((0 : Int)).toNat = 0 from rfl] at hx17_0); (rw [show ((0 : Int)).toNat = 0 from rfl] at hf17_0); replace p17 := eq_true p17; replace q17 := eq_true q17) | ((with_reducible refine gate_dst (N := 40) rfl ?_); ((refine gate_guard (by rfl) ?_; dsimp only)); refine aslice_event (P := Tryz.prog) rfl (N := 40) rfl 128 9 2 _ _ rfl rfl Tryz.underlying128 (by go_simp) ?_) | ((with_reducible refine gate_callee (f := 45) rfl ?_); refine goesL_ (some 41) rfl rfl Tryz.func45 (by kernel_rfl) rfl #[.int .i64 4, .slice (some ⟨go14, 0, none⟩) y396.length 2] rfl (by (simp only [List.map_toArray, List.map_cons, List.map_nil]); first | done | (rw [show y396.length = 2 from (by have e_ : y392.length = 2 := (by first | rfl | exact ae_); have e2_ := (Kd.R_reads' HO394.out).1; omega)] <;> rfl) | rfl | (simp only [List.length_drop, List.length_take]; rfl)) ?_; (with_reducible refine (J5.calls k2 4 _ _ y396 t397 _ ?side1 ?side2 ?side3 A18.out).mono ?_); (case side1 => repeat (first | exact (Kd.R_reads' HO394.out).2.2 | (with_reducible refine Kd.C_alloc ?_ _) | (with_reducible refine Kd.C_drewN ?_ _) | (with_reducible refine Kd.C_drew ?_))); (case side2 => rw [show y396.length = 2 from (by have e_ : y392.length = 2 := (by first | rfl | exact ae_); have e2_ := (Kd.R_reads' HO394.out).1; omega)]; first | done | exact Nat.le_refl _ | exact Nat.le_of_eq (by have e_ : y392.length = 2 := (by first | rfl | exact ae_); have e2_ := (Kd.R_reads' HO394.out).1; omega)); (case side3 => repeat (first | exact (Kd.C_below HRG.out HB.out) | (with_reducible refine Kd.C_alloc ?_ _) | (with_reducible refine Kd.C_drewN ?_ _) | (with_reducible refine Kd.C_drew ?_))); rintro e w26 ⟨rfl, hb⟩; refine ⟨_, rfl, ?_⟩; replace HB := Aside0.mk (below_step bl_ hb); replace HO394 := Aside0.mk (Kd.R_below (mv_ HO394.out) hb); clear hb))
       go_roundg k2
       case measure => have := HJ3.out; have := HK2.out; omega
       case rel => exact ⟨(t397), (x1_2 / 2), (wrap64 (x27_2 + 1)), vq_, vq_, vq_, H', ⟨by have := HJ3.out; have := HK2.out; omega⟩, ⟨bl_⟩⟩
      rw [if_neg c15] at H
      have c15b0 : ((Go.bits .and .i64 x1_2 1) == 1) = false := beq_eq_false_iff_ne.mpr c15
      have c15b1 : ((Go.bits .and .i64 x1_2 1) != 1) = true := bne_iff_ne.mpr c15
      revert H; refine oa_ fun t398 A28 H => ?_
      have H' := Aside0.mk H
      clear H
      have p391 : 0 ≤ (x27_2 : Int) := ae_
      have q391 : x27_2 < (l2.length : Int) := ae_
      obtain ⟨ad391, e391, hx391_0⟩ := Kd.at_string HR2.out x27_2 p391 q391
      cases e391
      replace hx391_0 := (HB.out.cell (World.block_lt_of_cell? w _ hx391_0)).trans hx391_0
      replace p391 := eq_true p391
      replace q391 := eq_true q391
      go_wp2_with (first | ((with_reducible refine gate_dst (N := 10) rfl ?_); ((refine gate_guard (by rfl) ?_; dsimp only)); refine R_arr Value.string (fun _ => rfl) _ 128 ?hg (N := 10) ?hd (List.replicate 2 (⟨#[]⟩ : ByteArray)) ?hr (Below.refl _ _) (Nat.le_refl _) (by decide) ?_; (case hd => rfl); (case hg => rfl); (case hr => exact gr_); intro v393 w29 ho30 hb hg_ hnew_; clear hg_ hnew_; (first | rw [← Ny392.out] at ho30 | (simp only [Int.reduceToNat] at ho30; rw [← Ny392.out] at ho30)); have HO394 := Aside0.mk (Kd.R_lower ho30 (below_size bl_)); replace HB := Aside0.mk (below_step bl_ hb); clear hb ho30; have qa14 : ((0 : Int) < (2 : Int)) = True := eq_true (by have e_ : y392.length = 2 := ae_; have h_ : (0 : Int) < ((y392.length : Int) : Int) := ae_; omega); have p14 : 0 ≤ (0 : Int) := (by omega); have q14 : (0 : Int) < ((y392.length : Int) : Int) := ae_; have qi14 : (0 < y392.length) = True := eq_true (by omega); obtain ⟨go14, co14, eo14, gb14, gl14, cl14, HG14⟩ := Kd.R_form HO394.out (by omega); (first | cases eo14 | (injection eo14 with ea_ en_ ec_; (first | subst ea_ | (injection ea_ with ea_; subst ea_)); subst ec_; clear en_)); have GB14 := Aside0.mk gb14; have GG14 := Aside0.mk HG14; clear gb14 gl14 HG14; obtain ⟨hx14_0, hf14_0⟩ := Kd.R_celln (⟨#[]⟩ : ByteArray) HO394.out (0 : Int) p14 q14; (rw [show ((0 : Int)).toNat = 0 from rfl] at hx14_0); (rw [show ((0 : Int)).toNat = 0 from rfl] at hf14_0); replace p14 := eq_true p14; replace q14 := eq_true q14; have HP31 := R_whole (ys := [x0_2, rdOf ByteArray.empty l2 x27_2]) HO394.out (by have e_ : y392.length = 2 := ae_; have e2_ := (Kd.R_reads' HO394.out).1; first | (rw [e_]; rfl) | (simp only [List.length_cons, List.length_nil]; omega))) | ((with_reducible refine gate_store (t := 128) (p := 10) rfl ?_); refine store_event (t := 128) (p := 10) (v := ?vo_w32) (w1 := (w29.setCells go14 0 (encs Value.string [x0_2, rdOf ByteArray.empty l2 x27_2]))) ?hg ?ho ?hn ?hr ?_; (case ho => rfl); (case hg => rfl); (case hn => rfl); (case hr => exact whole_run (ys := [x0_2, rdOf ByteArray.empty l2 x27_2]) rfl rfl rfl (by kernel_rfl) HO394.out (by have e_ : y392.length = 2 := ae_; have e2_ := (Kd.R_reads' HO394.out).1; first | (rw [e_]; rfl) | (simp only [List.length_cons, List.length_nil]; omega))); intro w32 hw; have hg : w29.grownBy w32 (some go14) := (by rw [hw]; exact HP31.2); have hp_ : Kd.R Kd.string 128 w32 w.heap.size (fun _ => True) (.slice (some ⟨go14, 0, none⟩) y392.length co14) y395 := (by rw [hw, Ny395.out]; exact HP31.1); clear HP31; replace HB := Aside0.mk ((Below.grown HB.out hg (below_size HB.out) (fun k_ e_ => (Option.some.inj e_) ▸ GB14.out) : Below w.heap.size w w32)); replace HO394 := Aside0.mk (hp_); clear hg hw hp_; have qa27 : ((0 : Int) < (2 : Int)) = True := eq_true (by have e_ : y392.length = 2 := ae_; have h_ : (0 : Int) < ((y392.length : Int) : Int) := ae_; omega); have p27 : 0 ≤ (0 : Int) := (by omega); have q27 : (0 : Int) < ((y392.length : Int) : Int) := ae_; have qi27 : (0 < y392.length) = True := eq_true (by omega); obtain ⟨hx27_0, hf27_0⟩ := Kd.R_celln (⟨#[]⟩ : ByteArray) HO394.out (0 : Int) p27 q27; (rw [show ((0 : Int)).toNat = 0 from rfl] at hx27_0); (rw [show ((0 : Int)).toNat = 0 from rfl] at hf27_0); replace p27 := eq_true p27; replace q27 := eq_true q27) | ((with_reducible refine gate_dst (N := 40) rfl ?_); ((refine gate_guard (by rfl) ?_; dsimp only)); refine aslice_event (P := Tryz.prog) rfl (N := 40) rfl 128 9 2 _ _ rfl rfl Tryz.underlying128 (by go_simp) ?_) | ((with_reducible refine gate_callee (f := 45) rfl ?_); refine goesL_ (some 41) rfl rfl Tryz.func45 (by kernel_rfl) rfl #[.int .i64 4, .slice (some ⟨go14, 0, none⟩) y395.length 2] rfl (by (simp only [List.map_toArray, List.map_cons, List.map_nil]); first | done | (rw [show y395.length = 2 from (by have e_ : y392.length = 2 := (by first | rfl | exact ae_); have e2_ := (Kd.R_reads' HO394.out).1; omega)] <;> rfl) | rfl | (simp only [List.length_drop, List.length_take]; rfl)) ?_; (with_reducible refine (J5.calls k2 4 _ _ y395 t398 _ ?side1 ?side2 ?side3 A28.out).mono ?_); (case side1 => repeat (first | exact (Kd.R_reads' HO394.out).2.2 | (with_reducible refine Kd.C_alloc ?_ _) | (with_reducible refine Kd.C_drewN ?_ _) | (with_reducible refine Kd.C_drew ?_))); (case side2 => rw [show y395.length = 2 from (by have e_ : y392.length = 2 := (by first | rfl | exact ae_); have e2_ := (Kd.R_reads' HO394.out).1; omega)]; first | done | exact Nat.le_refl _ | exact Nat.le_of_eq (by have e_ : y392.length = 2 := (by first | rfl | exact ae_); have e2_ := (Kd.R_reads' HO394.out).1; omega)); (case side3 => repeat (first | exact (Kd.C_below HRG.out HB.out) | (with_reducible refine Kd.C_alloc ?_ _) | (with_reducible refine Kd.C_drewN ?_ _) | (with_reducible refine Kd.C_drew ?_))); rintro e w34 ⟨rfl, hb⟩; refine ⟨_, rfl, ?_⟩; replace HB := Aside0.mk (below_step bl_ hb); replace HO394 := Aside0.mk (Kd.R_below (mv_ HO394.out) hb); clear hb))
      go_roundg k2
      case measure => have := HJ3.out; have := HK2.out; omega
      case rel => exact ⟨(t398), (x1_2 / 2), (wrap64 (x27_2 + 1)), vq_, vq_, vq_, H', ⟨by have := HJ3.out; have := HK2.out; omega⟩, ⟨bl_⟩⟩
     rw [if_neg c9] at H
     have c9b0 : decide (x27_2 < (l2.length : Int)) = false := decide_eq_false c9
     clear c9
     simp only [Option.some.injEq, Prod.mk.injEq] at H
     obtain ⟨rfl, rfl⟩ := H
     go_wp2
     go_ret2
     exact ⟨er_, bl_⟩

/-! ### Us = key_Verify: function 28 (walked by hand) -/
def Us.f (k : Nat) (a0 a1 a2 : ByteArray) : Option Bool :=
  (J3.f k a2).bind fun t => if t.2.2.2 = true then ((J5.f k 6 [a1]).bind fun d => (Jw.f k d t.2.1).bind fun p => (J0.f k p.1 t.1 t.2.2.1).bind fun q => (Uw.f k (t.2.2.1.length : Int) q.1).bind fun x => some (x.toList == a0.toList)) else some false
set_option maxHeartbeats 8000000 in
set_option maxRecDepth 100000 in
theorem Us.calls (k : Nat) (a0 a1 a2 : ByteArray) (r : Bool) (w : World) (hrG : Kd.C (Kd.int .u32) w (some ⟨0, 0, none⟩) keysL.length keysL) (h : Us.f k a0 a1 a2 = some r) :
    Calls Tryz.prog 28 #[.string a0, .string a1, .string a2] w fun e w' => e = .returned (.bool r) ∧ Below w.heap.size w w' := by
  have HRG := Aside0.mk hrG
  have HB := Aside0.mk (Below.refl w.heap.size w)
  clear hrG
  unfold Us.f at h
  replace h := Option.bind_eq_some_iff.mp h
  obtain ⟨⟨leaf, vs, ps, ok⟩, hP, h⟩ := h
  have A1 := Aside0.mk hP
  clear hP
  cases ok with
  | false =>
    obtain rfl := Option.some.inj (show some false = some r from h)
    clear h
    go_enter Tryz.func28, Tryz.ntmps28
    go_wp2_with (first | (go_at_call 56; (with_reducible refine (J3.calls k a2 leaf vs ps false _ A1.out).mono ?_); rintro e w1 ⟨P1, P2, q1, q2, rfl, hc1, hq1, hc2, hq2, hb⟩; have C1 := Aside0.mk hc1; have Q1 := Aside0.mk hq1; have C2 := Aside0.mk hc2; have Q2 := Aside0.mk hq2; have n0_ := Aside0.mk (below_step (by repeat (first | (with_reducible first | exact HB.out | apply lA_ | apply lN_ | apply lD_) | exact HB.out)) hb); clear HB; have HB := n0_; clear n0_; clear hb hc1 hq1 hc2 hq2))
    go_ret
    exact ⟨rfl, HB.out⟩
  | true =>
    replace h := Option.bind_eq_some_iff.mp (show (J5.f k 6 [a1]).bind (fun d => (Jw.f k d vs).bind fun p => (J0.f k p.1 leaf ps).bind fun q => (Uw.f k (ps.length : Int) q.1).bind fun x => some (x.toList == a0.toList)) = some r from h)
    obtain ⟨d, hD, h⟩ := h
    replace h := Option.bind_eq_some_iff.mp h
    obtain ⟨⟨p, po⟩, hR, h⟩ := h
    replace h := Option.bind_eq_some_iff.mp h
    obtain ⟨⟨q, qo⟩, hF, h⟩ := h
    replace h := Option.bind_eq_some_iff.mp h
    obtain ⟨x, hN, h⟩ := h
    obtain rfl := Option.some.inj h
    obtain ⟨ym, hym⟩ : ∃ y_ : List ByteArray, y_ = [a1] := ⟨_, rfl⟩
    rw [← hym] at hD
    have Nym := Aside0.mk hym
    have A2 := Aside0.mk hD
    have A3 := Aside0.mk hR
    have A4 := Aside0.mk hF
    have A5 := Aside0.mk hN
    clear h hD hR hF hN hym
    go_enter Tryz.func28, Tryz.ntmps28
    go_wp2_with (first | (go_at_call 56; (with_reducible refine (J3.calls k a2 leaf vs ps true _ A1.out).mono ?_); rintro e w1 ⟨P1, P2, q1, q2, rfl, hc1, hq1, hc2, hq2, hb⟩; have C1 := Aside0.mk hc1; have Q1 := Aside0.mk hq1; have C2 := Aside0.mk hc2; have Q2 := Aside0.mk hq2; have n0_ := Aside0.mk (below_step (by repeat (first | (with_reducible first | exact HB.out | apply lA_ | apply lN_ | apply lD_) | exact HB.out)) hb); clear HB; have HB := n0_; clear n0_; clear hb hc1 hq1 hc2 hq2) | ((with_reducible refine gate_dst (N := 26) rfl ?_); refine Kd.R_lit Kd.string _ 9 ?hg (N := 26) ?hd (xs := ([a1] : List ByteArray)) (inner := [.string a1]) (ok := fun _ => True) (okp := fun _ => True) ?hr ?hp (fun _ hk => hk) trivial (Below.refl _ _) (Nat.le_refl _) (by simp) ?_; (case hd => rfl); (case hg => rfl); (case hr => first | (go_simp; done) | (go_simp; rfl)); (case hp => exact (Reps.one (show Kd.M Kd.string _ _ _ a1 [.string a1] from rfl) (Reps.none _ _))); intro v2 w2 ho hb hg_ hnew_; clear hg_ hnew_; (first | rw [← Nym.out] at ho | (simp only [Int.reduceToNat] at ho; rw [← Nym.out] at ho)); have m_ := Aside0.mk (Kd.C_below (by repeat (first | exact C1.out | (with_reducible refine Kd.C_alloc ?_ _) | (with_reducible refine Kd.C_drewN ?_ _) | (with_reducible refine Kd.C_drew ?_))) hb); clear C1; have C1 := m_; clear m_; have m_ := Aside0.mk (Kd.C_below (by repeat (first | exact C2.out | (with_reducible refine Kd.C_alloc ?_ _) | (with_reducible refine Kd.C_drewN ?_ _) | (with_reducible refine Kd.C_drew ?_))) hb); clear C2; have C2 := m_; clear m_; have HO := Aside0.mk ho; have n0_ := Aside0.mk (below_step (by repeat (first | (with_reducible first | exact HB.out | apply lA_ | apply lN_ | apply lD_) | exact HB.out)) hb); clear HB; have HB := n0_; clear n0_; clear hb ho; obtain ⟨Ao, co, eo⟩ := Kd.R_slice HO.out; subst eo) | (go_at_call 45; (with_reducible refine (J5.calls k 6 _ _ ym d _ ?side1 ?side2 ?side3 A2.out).mono ?_); (case side1 => repeat (first | exact (Kd.R_reads' HO.out).2.2 | (with_reducible refine Kd.C_alloc ?_ _) | (with_reducible refine Kd.C_drewN ?_ _) | (with_reducible refine Kd.C_drew ?_))); (case side2 => exact (Kd.R_reads' HO.out).2.1); (case side3 => repeat (first | exact (Kd.C_below HRG.out HB.out) | (with_reducible refine Kd.C_alloc ?_ _) | (with_reducible refine Kd.C_drewN ?_ _) | (with_reducible refine Kd.C_drew ?_))); rintro e w3 ⟨rfl, hb⟩; have m_ := Aside0.mk (Kd.C_below (by repeat (first | exact C1.out | (with_reducible refine Kd.C_alloc ?_ _) | (with_reducible refine Kd.C_drewN ?_ _) | (with_reducible refine Kd.C_drew ?_))) hb); clear C1; have C1 := m_; clear m_; have m_ := Aside0.mk (Kd.C_below (by repeat (first | exact C2.out | (with_reducible refine Kd.C_alloc ?_ _) | (with_reducible refine Kd.C_drewN ?_ _) | (with_reducible refine Kd.C_drew ?_))) hb); clear C2; have C2 := m_; clear m_; have n0_ := Aside0.mk (below_step (by repeat (first | (with_reducible first | exact HB.out | apply lA_ | apply lN_ | apply lD_) | exact HB.out)) hb); clear HB; have HB := n0_; clear n0_; clear hb) | (go_at_call 57; (with_reducible refine (Jw.calls k d _ _ vs p po _ ?side1 ?side2 ?side3 A3.out).mono ?_); (case side1 => repeat (first | exact C1.out | (with_reducible refine Kd.C_alloc ?_ _) | (with_reducible refine Kd.C_drewN ?_ _) | (with_reducible refine Kd.C_drew ?_))); (case side2 => exact Q1.out); (case side3 => repeat (first | exact (Kd.C_below HRG.out HB.out) | (with_reducible refine Kd.C_alloc ?_ _) | (with_reducible refine Kd.C_drewN ?_ _) | (with_reducible refine Kd.C_drew ?_))); rintro e w4 ⟨rfl, hb⟩; have m_ := Aside0.mk (Kd.C_below (by repeat (first | exact C2.out | (with_reducible refine Kd.C_alloc ?_ _) | (with_reducible refine Kd.C_drewN ?_ _) | (with_reducible refine Kd.C_drew ?_))) hb); clear C2; have C2 := m_; clear m_; have n0_ := Aside0.mk (below_step (by repeat (first | (with_reducible first | exact HB.out | apply lA_ | apply lN_ | apply lD_) | exact HB.out)) hb); clear HB; have HB := n0_; clear n0_; clear hb) | (go_at_call 58; (with_reducible refine (J0.calls k p leaf _ _ ps q qo _ ?side1 ?side2 ?side3 A4.out).mono ?_); (case side1 => repeat (first | exact C2.out | (with_reducible refine Kd.C_alloc ?_ _) | (with_reducible refine Kd.C_drewN ?_ _) | (with_reducible refine Kd.C_drew ?_))); (case side2 => exact Q2.out); (case side3 => repeat (first | exact (Kd.C_below HRG.out HB.out) | (with_reducible refine Kd.C_alloc ?_ _) | (with_reducible refine Kd.C_drewN ?_ _) | (with_reducible refine Kd.C_drew ?_))); rintro e w5 ⟨rfl, hb⟩; have n0_ := Aside0.mk (below_step (by repeat (first | (with_reducible first | exact HB.out | apply lA_ | apply lN_ | apply lD_) | exact HB.out)) hb); clear HB; have HB := n0_; clear n0_; clear hb) | (go_at_call 49; (with_reducible refine (Uw.calls k (ps.length : Int) q x _ ?side1 A5.out).mono ?_); (case side1 => repeat (first | exact (Kd.C_below HRG.out HB.out) | (with_reducible refine Kd.C_alloc ?_ _) | (with_reducible refine Kd.C_drewN ?_ _) | (with_reducible refine Kd.C_drew ?_))); rintro e w6 ⟨rfl, hb⟩; have n0_ := Aside0.mk (below_step (by repeat (first | (with_reducible first | exact HB.out | apply lA_ | apply lN_ | apply lD_) | exact HB.out)) hb); clear HB; have HB := n0_; clear n0_; clear hb))
    go_ret
    exact ⟨rfl, HB.out⟩

/-! ### Uc = event_Check: function 11 -/
def Uc.j0 : Nat → ByteArray → Bool → Int → ByteArray → List ByteArray → ByteArray → ByteArray → Option (Int)
 | 0, _, _, _, _, _, _, _ => none
 | k + 1, x3, x10, x400000, x400001, x400002, x400003, x400004 => if x10 = true then (some 2) else ((Us.f k x400001 x3 x400004).bind fun t403 => (if t403 = true then (some 0) else (some 4)))
def Uc.f (k : Nat) (a0_0 : Int) (a0_1 : ByteArray) (l0_2 : List ByteArray) (a0_3 : ByteArray) (a0_4 : ByteArray) : Option (Int) := (Ut.f k a0_0 a0_1 l0_2 a0_3 a0_4).bind fun bt400 => (if bt400.2 = 0 then ((Jp.f k a0_0 a0_1 l0_2 a0_3 a0_4).bind fun t402 => (Uc.j0 k bt400.1 (!t402) a0_0 a0_1 l0_2 a0_3 a0_4)) else (Uc.j0 k bt400.1 true a0_0 a0_1 l0_2 a0_3 a0_4))
set_option maxHeartbeats 64000000 in
set_option maxRecDepth 100000 in
theorem Uc.calls (k : Nat) (a0_0 : Int) (a0_1 : ByteArray) (A0_2 : Option Addr) (c0_2 : Nat) (l0_2 : List ByteArray) (a0_3 : ByteArray) (a0_4 : ByteArray) (r : Int) (w : World) (hr0_2 : Kd.C Kd.string w A0_2 l0_2.length l0_2) (hc0_2 : l0_2.length ≤ c0_2) (hrG : Kd.C (Kd.int .u32) w (some ⟨0, 0, none⟩) keysL.length keysL) (h : Uc.f k a0_0 a0_1 l0_2 a0_3 a0_4 = some r) :
 Calls Tryz.prog 11 #[.agg #[.int .i64 a0_0, .string a0_1, .slice A0_2 l0_2.length c0_2, .string a0_3, .string a0_4]] w fun e w' => e = .returned (.int .i64 r) ∧ Below w.heap.size w w' := by
 have hu24 := Tryz.underlying24
 have HR0_2 := Aside0.mk hr0_2
 have HC0_2 := Aside0.mk hc0_2
 clear hr0_2 hc0_2
 have HRG := Aside0.mk hrG
 clear hrG
 have HB := Aside0.mk (Below.refl w.heap.size w)
 have H : ((Ut.f k a0_0 a0_1 l0_2 a0_3 a0_4).bind fun bt400 => (if bt400.2 = 0 then ((Jp.f k a0_0 a0_1 l0_2 a0_3 a0_4).bind fun t402 => (Uc.j0 k bt400.1 (!t402) a0_0 a0_1 l0_2 a0_3 a0_4)) else (Uc.j0 k bt400.1 true a0_0 a0_1 l0_2 a0_3 a0_4))) = some r := h
 clear h
 replace H := ob_ H
 obtain ⟨⟨t400, t401⟩, A20, H⟩ := H
 replace H : (if t401 = 0 then ((Jp.f k a0_0 a0_1 l0_2 a0_3 a0_4).bind fun t402 => (Uc.j0 k t400 (!t402) a0_0 a0_1 l0_2 a0_3 a0_4)) else (Uc.j0 k t400 true a0_0 a0_1 l0_2 a0_3 a0_4)) = some r := H
 have A2 := Aside0.mk A20
 clear A20
 have HC3 := Aside0.mk H
 clear H
 go_enter Tryz.func11, Tryz.ntmps11
 go_upto_region 2 with (first | ((with_reducible refine gate_dst (N := 1) rfl ?_); refine box_event ?hg (N := 1) ?hd (cs := #[.int .i64 a0_0, .string a0_1, .slice A0_2 l0_2.length c0_2, .string a0_3, .string a0_4]) (t := 24) ?hr ?_; (case hd => rfl); (case hg => rfl); (case hr => exact gr_); intro gb399 hg w4 hbox hb; have GE399 := Aside0.mk ((by rw [hg]; exact (below_size bl_) : w.heap.size ≤ gb399)); have GW399 := Aside0.mk ((by rw [hg]; exact (below_size bl_) : w.heap.size ≤ gb399)); have BK399 := Aside0.mk (hbox); replace HB := Aside0.mk (below_step bl_ hb); clear hb hbox hg; obtain ⟨hcz5_0, hcz5_1, hcz5_2, hcz5_3, hcz5_4⟩ := c5_ BK399.out; obtain ⟨hfz5_0, hfz5_1, hfz5_2, hfz5_3, hfz5_4⟩ := f5_ BK399.out) | ((with_reducible refine gate_callee (f := 24) rfl ?_); refine gL_ 7 Tryz.func24 #[.agg #[.int .i64 a0_0, .string a0_1, .slice A0_2 l0_2.length c0_2, .string a0_3, .string a0_4]] ?_; (with_reducible refine (Ut.calls k a0_0 a0_1 _ _ l0_2 a0_3 a0_4 t400 t401 _ ?side1 ?side2 A2.out).mono ?_); (case side1 => repeat (first | exact (Kd.C_below HR0_2.out HB.out) | (with_reducible refine Kd.C_alloc ?_ _) | (with_reducible refine Kd.C_drewN ?_ _) | (with_reducible refine Kd.C_drew ?_))); (case side2 => exact HC0_2.out); rintro e w6 ⟨rfl, hb⟩; refine ⟨_, rfl, ?_⟩; replace HB := Aside0.mk (below_step (bs_ GE399.out) hb); replace BK399 := Aside0.mk (blk_below (g := gb399) (o := .cells #[.int .i64 a0_0, .string a0_1, .slice A0_2 l0_2.length c0_2, .string a0_3, .string a0_4] 24 (0, 0)) (mb_ BK399.out) hb); clear hb))
 go_cut [10] (fun v10 wc => ∃ (kq : Nat) (x10_2 : Bool), v10 = .bool x10_2 ∧ Aside0 (Uc.j0 kq t400 x10_2 a0_0 a0_1 l0_2 a0_3 a0_4 = some r) ∧ Aside0 (kq ≤ k) ∧ Aside0 (wc.heap[gb399]? = some (.cells #[.int .i64 a0_0, .string a0_1, (.slice A0_2 l0_2.length c0_2), .string a0_3, .string a0_4] 24 (0, 0))) ∧ Aside0 (Below w.heap.size w wc))
 case first =>
  have H := HC3.out
  clear HC3
  by_cases c7 : t401 = 0
  ·rw [if_pos c7] at H
   have c7b0 : (t401 == 0) = true := beq_iff_eq.mpr c7
   have c7b1 : (t401 != 0) = false := bne_eq_false_iff_eq.mpr c7
   clear c7
   (first | rw [c7b0] | (simp only [i64_w, i32_w]; rw [c7b0]) | skip)
   revert H; refine oa_ fun t402 A8 H => ?_
   have H' := Aside0.mk H
   clear H
   obtain ⟨hcz9_0, hcz9_1, hcz9_2, hcz9_3, hcz9_4⟩ := c5_ BK399.out
   obtain ⟨hfz9_0, hfz9_1, hfz9_2, hfz9_3, hfz9_4⟩ := f5_ BK399.out
   go_wp2_with (first | (go_at_call 27; (with_reducible refine (Jp.calls k a0_0 a0_1 _ _ l0_2 a0_3 a0_4 t402 _ ?side1 ?side2 A8.out).mono ?_); (case side1 => repeat (first | exact (Kd.C_below HR0_2.out HB.out) | (with_reducible refine Kd.C_alloc ?_ _) | (with_reducible refine Kd.C_drewN ?_ _) | (with_reducible refine Kd.C_drew ?_))); (case side2 => exact HC0_2.out); rintro e w10 ⟨rfl, hb⟩; replace HB := Aside0.mk (below_step (bs_ GE399.out) hb); replace BK399 := Aside0.mk (blk_below (g := gb399) (o := .cells #[.int .i64 a0_0, .string a0_1, .slice A0_2 l0_2.length c0_2, .string a0_3, .string a0_4] 24 (0, 0)) (mb_ BK399.out) hb); clear hb))
   go_meet
   case rel => exact ⟨_, (!t402), vq_, H', ⟨by first | omega | exact Nat.le_refl _⟩, ⟨mb_ BK399.out⟩, ⟨bs_ GE399.out⟩⟩
  rw [if_neg c7] at H
  have c7b0 : (t401 == 0) = false := beq_eq_false_iff_ne.mpr c7
  have c7b1 : (t401 != 0) = true := bne_iff_ne.mpr c7
  (first | rw [c7b0] | (simp only [i64_w, i32_w]; rw [c7b0]) | skip)
  have H' := Aside0.mk H
  clear H
  go_wp2
  go_meet
  case rel => exact ⟨_, (true), vq_, H', ⟨by first | omega | exact Nat.le_refl _⟩, ⟨mb_ BK399.out⟩, ⟨bs_ GE399.out⟩⟩
 case rest =>
  clear HC3
  clear hcz5_0 hcz5_1 hcz5_2 hcz5_3 hcz5_4 hfz5_0 hfz5_1 hfz5_2 hfz5_3 hfz5_4
  obtain ⟨kq, x10_2, rfl, HA, HJ2, BK399, HB⟩ := hcut
  cases kq with
  | zero => exact absurd HA.out (by simp [Uc.j0])
  | succ kj2 =>
   have H := HA.out
   clear HA
   simp only [Uc.j0] at H
   by_cases c11 : x10_2 = true
   ·subst c11
    have H1 : (some 2) = some r := by rw [if_pos rfl] at H; exact H
    clear H
    have H := H1
    clear H1
    obtain rfl := Option.some.inj H
    go_wp2
    go_ret
    exact ⟨er_, bs_ GE399.out⟩
   replace c11 := Bool.eq_false_iff.mpr c11
   subst c11
   have H1 : ((Us.f kj2 a0_1 t400 a0_4).bind fun t403 => (if t403 = true then (some 0) else (some 4))) = some r := by rw [if_neg (show ¬ (false = true) by decide)] at H; exact H
   clear H
   have H := H1
   clear H1
   revert H; refine oa_ fun t403 A12 H => ?_
   by_cases c13 : t403 = true
   ·subst c13
    have H1 : (some 0) = some r := by rw [if_pos rfl] at H; exact H
    clear H
    have H := H1
    clear H1
    obtain rfl := Option.some.inj H
    obtain ⟨hcz14_0, hcz14_1, hcz14_2, hcz14_3, hcz14_4⟩ := c5_ BK399.out
    obtain ⟨hfz14_0, hfz14_1, hfz14_2, hfz14_3, hfz14_4⟩ := f5_ BK399.out
    go_wp2_with (first | ((with_reducible refine gate_callee (f := 28) rfl ?_); refine gL_ 24 Tryz.func28 #[.string a0_1, .string t400, .string a0_4] ?_; (with_reducible refine (Us.calls kj2 a0_1 t400 a0_4 true _ ?side1 A12.out).mono ?_); (case side1 => repeat (first | exact (Kd.C_below HRG.out HB.out) | (with_reducible refine Kd.C_alloc ?_ _) | (with_reducible refine Kd.C_drewN ?_ _) | (with_reducible refine Kd.C_drew ?_))); rintro e w15 ⟨rfl, hb⟩; refine ⟨_, rfl, ?_⟩; replace HB := Aside0.mk (below_step (bs_ GE399.out) hb); replace BK399 := Aside0.mk (blk_below (g := gb399) (o := .cells #[.int .i64 a0_0, .string a0_1, .slice A0_2 l0_2.length c0_2, .string a0_3, .string a0_4] 24 (0, 0)) (mb_ BK399.out) hb); clear hb))
    go_ret
    exact ⟨er_, bs_ GE399.out⟩
   replace c13 := Bool.eq_false_iff.mpr c13
   subst c13
   have H1 : (some 4) = some r := by rw [if_neg (show ¬ (false = true) by decide)] at H; exact H
   clear H
   have H := H1
   clear H1
   obtain rfl := Option.some.inj H
   obtain ⟨hcz16_0, hcz16_1, hcz16_2, hcz16_3, hcz16_4⟩ := c5_ BK399.out
   obtain ⟨hfz16_0, hfz16_1, hfz16_2, hfz16_3, hfz16_4⟩ := f5_ BK399.out
   go_wp2_with (first | ((with_reducible refine gate_callee (f := 28) rfl ?_); refine gL_ 24 Tryz.func28 #[.string a0_1, .string t400, .string a0_4] ?_; (with_reducible refine (Us.calls kj2 a0_1 t400 a0_4 false _ ?side1 A12.out).mono ?_); (case side1 => repeat (first | exact (Kd.C_below HRG.out HB.out) | (with_reducible refine Kd.C_alloc ?_ _) | (with_reducible refine Kd.C_drewN ?_ _) | (with_reducible refine Kd.C_drew ?_))); rintro e w17 ⟨rfl, hb⟩; refine ⟨_, rfl, ?_⟩; replace HB := Aside0.mk (below_step (bs_ GE399.out) hb); replace BK399 := Aside0.mk (blk_below (g := gb399) (o := .cells #[.int .i64 a0_0, .string a0_1, .slice A0_2 l0_2.length c0_2, .string a0_3, .string a0_4] 24 (0, 0)) (mb_ BK399.out) hb); clear hb))
   go_ret
   exact ⟨er_, bs_ GE399.out⟩

/-! ### J7 = palaverref01_Value: function 59 -/
def J7.l0 : Nat → ByteArray → Int → Int → Option (Int)
 | 0, _, _, _ => none
 | k + 1, x0, x3, x4 => if x4 < (x0.size : Int) then (if 0 ≤ x4 then (J7.l0 k x0 (wrap64 ((wrap64 (256 * x3)) + (wrap64 (bt x0 x4)))) (wrap64 (x4 + 1))) else (none)) else (some x3)
def J7.f (k : Nat) (a0 : ByteArray) : Option (Int) := J7.l0 k a0 0 0
set_option maxHeartbeats 64000000 in
set_option maxRecDepth 100000 in
theorem J7.calls (k : Nat) (a0 : ByteArray) (r : Int) (w : World) (h : J7.f k a0 = some r) :
 Calls Tryz.prog 59 #[.string a0] w fun e w' => e = .returned (.int .i64 r) ∧ Drawn0 w w' := by
 have H : (J7.l0 k a0 0 0) = some r := h
 clear h
 have H' := Aside0.mk H
 clear H
 go_enter Tryz.func59, Tryz.ntmps59
 go_wp2
 go_loopg [3, 4] k (fun kq v3 v4 w' => ∃ (x3_1 : Int) (x4_1 : Int), v3 = .int .i64 x3_1 ∧ v4 = .int .i64 x4_1 ∧ Aside0 (J7.l0 kq a0 x3_1 x4_1 = some r) ∧ Aside0 (kq ≤ k) ∧ Drawn0 w w')
 case atStart => exact ⟨(0), (0), vq_, vq_, H', ⟨Nat.le_refl _⟩, by repeat (first | exact Drawn0.refl _ | apply Drawn0.step)⟩
 case round =>
  clear H'
  obtain ⟨x3_1, x4_1, rfl, rfl, HA, HK1, ⟨m1, rfl⟩⟩ := hrel
  cases gk with
  | zero => exact absurd HA.out (by simp [J7.l0])
  | succ k1 =>
   have H := HA.out
   clear HA
   simp only [J7.l0] at H
   by_cases c2 : x4_1 < (a0.size : Int)
   ·rw [if_pos c2] at H
    have c2b0 : decide (x4_1 < (a0.size : Int)) = true := decide_eq_true c2
    clear c2
    revert H; refine nd_ fun c3 c3b0 H => ?_
    clear c3
    have H' := Aside0.mk H
    clear H
    have p4 := eq_true (ae_ : 0 ≤ (x4_1 : Int))
    have q4 := eq_true (ae_ : x4_1 < (a0.size : Int))
    have hx4 := bt_at a0 x4_1
    go_wp2
    go_roundg k1
    case measure => have := HK1.out; omega
    case rel => exact ⟨(wrap64 ((wrap64 (256 * x3_1)) + (wrap64 (bt a0 x4_1)))), (wrap64 (x4_1 + 1)), vq_, vq_, H', ⟨by have := HK1.out; omega⟩, by repeat (first | exact Drawn0.refl _ | apply Drawn0.step)⟩
   rw [if_neg c2] at H
   have c2b0 : decide (x4_1 < (a0.size : Int)) = false := decide_eq_false c2
   clear c2
   obtain rfl := Option.some.inj H
   go_wp2
   go_ret
   exact ⟨by first | rfl | (simp; done) | (simp [*]; done) | exact congrArg Value.bool (nonempty_l _) | (refine congrArg (Value.int _) ?_; first | omega | (unfold wrap64; omega)), by repeat (first | exact Drawn0.refl _ | apply Drawn0.step)⟩

/-! ### Jk = palaverref05_Parts: function 29 -/
mutual
def Jk.l0 : Nat → ByteArray → Int → Option (Int × List ByteArray × List ByteArray × Bool)
 | 0, _, _ => none
 | k + 1, x0, x6 => if x6 ≤ 4 then (if (x0.size : Int) = (wrap64 (2 + (wrap64 (32 * (wrap64 (67 + x6)))))) then (if 0 ≤ 2 then (if 2 ≤ (x0.size : Int) then ((J7.f k (x0.extract 0 2)).bind fun t404 => (Jk.l1 k x0 x6 t404 1 0)) else (none)) else (none)) else (Jk.l0 k x0 (wrap64 (x6 + 1)))) else (some (0, ([] : List ByteArray), ([] : List ByteArray), false))
def Jk.l1 : Nat → ByteArray → Int → Int → Int → Int → Option (Int × List ByteArray × List ByteArray × Bool)
 | 0, _, _, _, _, _ => none
 | k + 1, x0, x6, x7, x8, x9 => if x9 < x6 then (Jk.l1 k x0 x6 x7 (wrap64 (2 * x8)) (wrap64 (x9 + 1))) else (if x7 ≥ x8 then (some (0, ([] : List ByteArray), ([] : List ByteArray), false)) else (Jk.l2 k x0 x7 ([] : List ByteArray) 2))
def Jk.l2 : Nat → ByteArray → Int → List ByteArray → Int → Option (Int × List ByteArray × List ByteArray × Bool)
 | 0, _, _, _, _ => none
 | k + 1, x0, x7, x10, x11 => if x11 < (x0.size : Int) then (if 0 ≤ x11 then (if x11 ≤ (wrap64 (x11 + 32)) then (if (wrap64 (x11 + 32)) ≤ (x0.size : Int) then (if x10.length < 8796093022208 then (Jk.l2 k x0 x7 (x10 ++ [x0.extract (x11 : Int).toNat ((wrap64 (x11 + 32)) : Int).toNat]) (wrap64 (x11 + 32))) else (none)) else (none)) else (none)) else (none)) else (if 67 ≤ x10.length then (some (x7, x10.take 67, x10.drop 67, true)) else (none))
end
def Jk.f (k : Nat) (a0 : ByteArray) : Option (Int × List ByteArray × List ByteArray × Bool) := Jk.l0 k a0 0
set_option maxHeartbeats 64000000 in
set_option maxRecDepth 100000 in
theorem Jk.calls (k : Nat) (a0 : ByteArray) (r1 : Int) (r2 : List ByteArray) (r3 : List ByteArray) (r4 : Bool) (w : World) (h : Jk.f k a0 = some (r1, r2, r3, r4)) :
 Calls Tryz.prog 29 #[.string a0] w fun e w' => ∃ (A1_ A2_ : Option Addr) (c1_ c2_ : Nat), e = .returned (.tuple #[.int .i64 r1, .slice A1_ r2.length c1_, .slice A2_ r3.length c2_, .bool r4]) ∧ Kd.C Kd.string w' A1_ r2.length r2 ∧ r2.length ≤ c1_ ∧ Kd.C Kd.string w' A2_ r3.length r3 ∧ r3.length ≤ c2_ ∧ Below w.heap.size w w' := by
 have HB := Aside0.mk (Below.refl w.heap.size w)
 have H : (Jk.l0 k a0 0) = some (r1, r2, r3, r4) := h
 clear h
 have H' := Aside0.mk H
 clear H
 go_enter Tryz.func29, Tryz.ntmps29
 go_wp2
 repeat (go_quiet (fail); try go_wp2)
 go_loopg [6] k (fun kq v6 w' => ∃ (x6_1 : Int), v6 = .int .i64 x6_1 ∧ Aside0 (Jk.l0 kq a0 x6_1 = some (r1, r2, r3, r4)) ∧ Aside0 (kq ≤ k) ∧ Aside0 (Below w.heap.size w w'))
 case atStart => exact ⟨(0), vq_, H', ⟨Nat.le_refl _⟩, ⟨bl_⟩⟩
 case round =>
  clear H'
  obtain ⟨x6_1, rfl, HA, HK1, HB⟩ := hrel
  cases gk with
  | zero => exact absurd HA.out (by simp [Jk.l0])
  | succ k1 =>
   have H := HA.out
   clear HA
   simp only [Jk.l0] at H
   by_cases c2 : x6_1 ≤ 4
   ·rw [if_pos c2] at H
    have c2b0 : decide (x6_1 ≤ 4) = true := decide_eq_true c2
    clear c2
    by_cases c3 : (a0.size : Int) = (wrap64 (2 + (wrap64 (32 * (wrap64 (67 + x6_1))))))
    ·rw [if_pos c3] at H
     have c3b0 : ((a0.size : Int) == (wrap64 (2 + (wrap64 (32 * (wrap64 (67 + x6_1))))))) = true := beq_iff_eq.mpr c3
     have c3b1 : ((a0.size : Int) != (wrap64 (2 + (wrap64 (32 * (wrap64 (67 + x6_1))))))) = false := bne_eq_false_iff_eq.mpr c3
     clear c3
     revert H; refine ne_ fun c4 c4b0 c4b1 => ne_ fun c5 c5b0 c5b1 => oa_ fun t404 A6 H => ?_
     clear c4 c5
     have H' := Aside0.mk H
     clear H
     go_wp2_with (first | (go_at_call 59; (with_reducible refine (J7.calls k1 (a0.extract 0 2) t404 _ A6.out).mono ?_); rintro e w' ⟨rfl, ⟨nd, rfl⟩⟩))
     go_loopg [8, 9] k1 (fun kq v8 v9 w' => ∃ (x8_2 : Int) (x9_2 : Int), v8 = .int .i64 x8_2 ∧ v9 = .int .i64 x9_2 ∧ Aside0 (Jk.l1 kq a0 x6_1 t404 x8_2 x9_2 = some (r1, r2, r3, r4)) ∧ Aside0 (kq ≤ k1) ∧ Aside0 (Below w.heap.size w w'))
     case atStart => exact ⟨(1), (0), vq_, vq_, H', ⟨Nat.le_refl _⟩, ⟨bl_⟩⟩
     case round =>
      clear H'
      clear c2b0 c3b0 c3b1 c4b0 c4b1 c5b0 c5b1
      obtain ⟨x8_2, x9_2, rfl, rfl, HA, HK2, HB⟩ := hrel
      cases gk with
      | zero => exact absurd HA.out (by simp [Jk.l1])
      | succ k2 =>
       have H := HA.out
       clear HA
       simp only [Jk.l1] at H
       by_cases c7 : x9_2 < x6_1
       ·rw [if_pos c7] at H
        have c7b0 : decide (x9_2 < x6_1) = true := decide_eq_true c7
        clear c7
        have H' := Aside0.mk H
        clear H
        go_wp2
        repeat (go_quiet (fail); try go_wp2)
        go_roundg k2
        case measure => have := HK1.out; have := HK2.out; omega
        case rel => exact ⟨(wrap64 (2 * x8_2)), (wrap64 (x9_2 + 1)), vq_, vq_, H', ⟨by have := HK1.out; have := HK2.out; omega⟩, ⟨bl_⟩⟩
       rw [if_neg c7] at H
       have c7b0 : decide (x9_2 < x6_1) = false := decide_eq_false c7
       clear c7
       by_cases c8 : t404 ≥ x8_2
       ·rw [if_pos c8] at H
        have c8b0 : decide (x8_2 ≤ t404) = true := decide_eq_true c8
        clear c8
        simp only [Option.some.injEq, Prod.mk.injEq] at H
        obtain ⟨rfl, rfl, rfl, rfl⟩ := H
        go_wp2
        repeat (go_quiet (fail); try go_wp2)
        refine bodyPost_ret (results_list (rs := [.tmp 2, .tmp 3, .tmp 4, .tmp 5]) rfl (by simp) (.tmp (.tmp (.tmp (.tmp .nil))))) rfl ?_
        exact ⟨none, none, 0, 0, er_, Kd.C_nil _ _, Nat.le_refl _, Kd.C_nil _ _, Nat.le_refl _, bl_⟩
       rw [if_neg c8] at H
       have c8b0 : decide (x8_2 ≤ t404) = false := decide_eq_false c8
       clear c8
       have H' := Aside0.mk H
       clear H
       go_wp2
       repeat (go_quiet (fail); try go_wp2)
       go_loopg [10, 11] k2 (fun kq v10 v11 w' => ∃ (x10_3 : List ByteArray) (x11_3 : Int), v11 = .int .i64 x11_3 ∧ Aside0 (Jk.l2 kq a0 t404 x10_3 x11_3 = some (r1, r2, r3, r4)) ∧ Aside0 (kq ≤ k2) ∧ Aside0 (Kd.R Kd.string 9 w' w.heap.size (fun _ => True) v10 x10_3) ∧ Aside0 (Below w.heap.size w w'))
       case atStart => exact ⟨(([] : List ByteArray)), (2), vq_, H', ⟨Nat.le_refl _⟩, ⟨by first | exact Kd.R_nil _ _ _ _ _ | exact Kd.N_nil _ _ _ _ _ | exact Kd.V_nil _ _ _ _ _ | exact Kd.Q_nil _ _ _ _ _ | exact Kd.S_nil _ _ _ _ _⟩, ⟨bl_⟩⟩
       case round =>
        clear H'
        clear c7b0 c8b0
        obtain ⟨x10_3, x11_3, rfl, HA, HK3, HO_10, HB⟩ := hrel
        cases gk with
        | zero => exact absurd HA.out (by simp [Jk.l2])
        | succ k3 =>
         have H := HA.out
         clear HA
         simp only [Jk.l2] at H
         by_cases c9 : x11_3 < (a0.size : Int)
         ·rw [if_pos c9] at H
          have c9b0 : decide (x11_3 < (a0.size : Int)) = true := decide_eq_true c9
          clear c9
          revert H; refine ne_ fun c10 c10b0 c10b1 => ne_ fun c11 c11b0 c11b1 => ne_ fun c12 c12b0 c12b1 => nc_ fun c13 H => ?_
          have LMc13 := Aside0.mk c13
          clear c10 c13
          generalize e_ : (x10_3 ++ [a0.extract (x11_3 : Int).toNat ((wrap64 (x11_3 + 32)) : Int).toNat] : List ByteArray) = y405 at H
          have Ny405 := Aside0.mk e_.symm
          clear e_
          have H' := Aside0.mk H
          clear H
          go_wp2_with (first | ((with_reducible refine gate_builtin (b := .append) (xs := #[.tmp 42, .tmp 48]) rfl ?_); at_builtin; refine Kd.R_append Kd.string (w0 := w) w.heap.size rfl (.tmp 42) (.tmp 48) 22 9 (.string ⟨#[]⟩) 16 rfl Tryz.underlying22 info9 rfl (by decide) (by omega) u10 x10_3 (a0.extract (x11_3 : Int).toNat ((wrap64 (x11_3 + 32)) : Int).toNat) [.string (a0.extract (x11_3 : Int).toNat ((wrap64 (x11_3 + 32)) : Int).toNat)] (fun _ => True) (fun _ => False) rfl rfl ?aP (fun _ hk => hk.elim) ?aF ?aO ?aB ?aS ?aL ?_; (case aP => exact rfl); (case aB => exact bl_); (case aF => exact (fun _ _ => trivial)); (case aO => exact (mv_ HO_10.out)); (case aS => exact (below_size bl_)); (case aL => have := LMc13.out; omega); intro v406 w14 ho hb hg hat; rw [← Ny405.out] at ho; have HO407 := Aside0.mk (ho); replace HB := Aside0.mk (hb); clear HO_10; clear ho hb hg hat))
          repeat (go_quiet (fail); try go_wp2)
          go_roundg k3
          case measure => have := HK1.out; have := HK2.out; have := HK3.out; omega
          case rel => exact ⟨(y405), (wrap64 (x11_3 + 32)), vq_, H', ⟨by have := HK1.out; have := HK2.out; have := HK3.out; omega⟩, ⟨mv_ HO407.out⟩, ⟨bl_⟩⟩
         rw [if_neg c9] at H
         have c9b0 : decide (x11_3 < (a0.size : Int)) = false := decide_eq_false c9
         clear c9
         have c67_ : 67 ≤ x10_3.length := by by_cases z_ : 67 ≤ x10_3.length <;> first | exact z_ | (rw [if_neg z_] at H; cases H)
         rw [if_pos c67_] at H
         obtain ⟨A_, c_, e_⟩ := Kd.R_slice HO_10.out
         subst e_
         have hc_ := (Kd.R_reads' HO_10.out).2.1
         obtain ⟨i0_, hi0_, _, hsz_, _⟩ := info_parts info9
         have k1_ := cut_to (P := Tryz.prog) 22 9 .i64 Tryz.underlying22 hi0_ A_ x10_3.length c_ 67 (by decide) (by omega) hc_
         have k2_ := cut_from (P := Tryz.prog) 22 9 .i64 Tryz.underlying22 hi0_ 1 hsz_ A_ x10_3.length c_ 67 (by decide) (by omega)
         obtain ⟨A2_, hA2_⟩ : ∃ z : Option Addr, (if c_ = 67 then A_ else A_.map (·.add (67 * 1))) = z := ⟨_, rfl⟩
         replace k2_ : ∀ W : World, (Instr.slice 22 (.slice A_ x10_3.length c_) (some (.int .i64 67)) none none).run Tryz.prog W = .ok (.slice A2_ (x10_3.length - 67) (c_ - 67)) W := by intro W; rw [k2_ W]; show Result.ok (Value.slice (if c_ = 67 then A_ else A_.map (·.add (67 * 1))) _ _) W = _; rw [hA2_]; rfl
         replace k1_ : ∀ W : World, (Instr.slice 22 (.slice A_ x10_3.length c_) none (some (.int .i64 67)) none).run Tryz.prog W = .ok (.slice A_ 67 c_) W := k1_
         simp only [Option.some.injEq, Prod.mk.injEq] at H
         obtain ⟨rfl, rfl, rfl, rfl⟩ := H
         go_wp2
         repeat (go_quiet (fail); try go_wp2)
         refine bodyPost_ret (results_list (rs := [.tmp 2, .tmp 3, .tmp 4, .tmp 5]) rfl (by simp) (.tmp (.tmp (.tmp (.tmp .nil))))) rfl ?_
         have hC_ := (Kd.R_reads' HO_10.out).2.2
         have l1_ : (x10_3.take 67).length = 67 := by rw [List.length_take]; omega
         have l2_ : (x10_3.drop 67).length = x10_3.length - 67 := List.length_drop
         have hT_ := Kd.C_take (m := 67) hC_ c67_
         have hD_ := Kd.C_drop (m := 67) hC_ c67_ hc_
         rw [show (if c_ = 67 then A_ else A_.map (·.add (67 * Kd.string.sz))) = A2_ from hA2_] at hD_
         exact ⟨A_, A2_, c_, c_ - 67, by rw [l1_, l2_]; rfl, by (with_reducible repeat (first | apply Kd.C_alloc | apply Kd.C_drewN | apply Kd.C_drew)); exact hT_, by omega, by (with_reducible repeat (first | apply Kd.C_alloc | apply Kd.C_drewN | apply Kd.C_drew)); exact hD_, by omega, bl_⟩
    rw [if_neg c3] at H
    have c3b0 : ((a0.size : Int) == (wrap64 (2 + (wrap64 (32 * (wrap64 (67 + x6_1))))))) = false := beq_eq_false_iff_ne.mpr c3
    have c3b1 : ((a0.size : Int) != (wrap64 (2 + (wrap64 (32 * (wrap64 (67 + x6_1))))))) = true := bne_iff_ne.mpr c3
    have H' := Aside0.mk H
    clear H
    go_wp2
    repeat (go_quiet (fail); try go_wp2)
    go_roundg k1
    case measure => have := HK1.out; omega
    case rel => exact ⟨(wrap64 (x6_1 + 1)), vq_, H', ⟨by have := HK1.out; omega⟩, ⟨bl_⟩⟩
   rw [if_neg c2] at H
   have c2b0 : decide (x6_1 ≤ 4) = false := decide_eq_false c2
   clear c2
   simp only [Option.some.injEq, Prod.mk.injEq] at H
   obtain ⟨rfl, rfl, rfl, rfl⟩ := H
   go_wp2
   repeat (go_quiet (fail); try go_wp2)
   refine bodyPost_ret (results_list (rs := [.tmp 2, .tmp 3, .tmp 4, .tmp 5]) rfl (by simp) (.tmp (.tmp (.tmp (.tmp .nil))))) rfl ?_
   exact ⟨none, none, 0, 0, er_, Kd.C_nil _ _, Nat.le_refl _, Kd.C_nil _ _, Nat.le_refl _, bl_⟩

/-! ### Jl = palaverref03_Digits: function 60 -/
mutual
def Jl.l0 : Nat → ByteArray → List Int → Int → Int → Option (List Int)
 | 0, _, _, _, _ => none
 | k + 1, x0, x3, x4, x5 => if x5 < (x0.size : Int) then (if 0 ≤ x5 then ((some (([wrap64 (Int.tdiv (wrap64 (bt x0 x5)) 16), Int.tmod (wrap64 (bt x0 x5)) 16] : List Int) : List Int)).bind fun y408 => (if x3.length + y408.length < 17592186044416 then (Jl.l0 k x0 (x3 ++ y408) x4 (wrap64 (x5 + 1))) else (none))) else (none)) else (Jl.l1 k x3 x4 0)
def Jl.l1 : Nat → List Int → Int → Int → Option (List Int)
 | 0, _, _, _ => none
 | k + 1, x3, x4, x6 => if x6 < (x3.length : Int) then (if 0 ≤ x6 then (Jl.l1 k x3 (wrap64 ((wrap64 (x4 + 15)) - (rd x3 x6))) (wrap64 (x6 + 1))) else (none)) else ((some (([wrap64 (Int.tdiv x4 256), Int.tmod (wrap64 (Int.tdiv x4 16)) 16, Int.tmod x4 16] : List Int) : List Int)).bind fun y415 => (if x3.length + y415.length < 17592186044416 then (some (x3 ++ y415)) else (none)))
end
def Jl.f (k : Nat) (a0 : ByteArray) : Option (List Int) := Jl.l0 k a0 ([] : List Int) 0 0
def Jl.T6 : Bool × List (List Nat × List Nat) := (true, [([], []), ([], []), ([], []), ([1, 2], [1, 2]), ([3], [3]), ([4], [4]), ([], []), ([], []), ([6, 7], [6, 7]), ([8], [8]), ([9], [9]), ([5, 10], [5, 10]), ([0, 11], [0, 11]), ([12, 12, 0, 1, 2, 3, 4, 5, 6, 7, 8, 9, 10, 11, 12], [0, 12])])
def Jl.B6 : List Nat := [0, 0, 0, 6, 14, 30, 0, 0, 192, 448, 960, 2046, 4095, 8191]
theorem Jl.tab6 : rtab .any (opsOf Tryz.f60 6) = Jl.T6 := by kernel_rfl
theorem Jl.bits6 : waitsOk Jl.T6.2 Jl.B6 = true := by kernel_rfl
set_option maxHeartbeats 64000000 in
set_option maxRecDepth 100000 in
theorem Jl.calls (k : Nat) (a0 : ByteArray) (r : List Int) (w : World) (h : Jl.f k a0 = some r) :
 Calls Tryz.prog 60 #[.string a0] w fun e w' => ∃ v0_ : Value, e = .returned (v0_) ∧ Kd.R (Kd.int .i64) 3 w' w.heap.size (fun _ => True) v0_ r ∧ Below w.heap.size w w' := by
 have HB := Aside0.mk (Below.refl w.heap.size w)
 have H : (Jl.l0 k a0 ([] : List Int) 0 0) = some r := h
 clear h
 have H' := Aside0.mk H
 clear H
 go_enter Tryz.func60, Tryz.ntmps60
 go_wp2
 go_loopg [3, 5] k (fun kq v3 v5 w' => ∃ (x3_1 : List Int) (x5_1 : Int), v5 = .int .i64 x5_1 ∧ Aside0 (Jl.l0 kq a0 x3_1 0 x5_1 = some r) ∧ Aside0 (kq ≤ k) ∧ Aside0 (Kd.R (Kd.int .i64) 3 w' w.heap.size (fun _ => True) v3 x3_1) ∧ Aside0 (Below w.heap.size w w'))
 case atStart => exact ⟨(([] : List Int)), (0), vq_, H', ⟨Nat.le_refl _⟩, ⟨by first | exact Kd.R_nil _ _ _ _ _ | exact Kd.N_nil _ _ _ _ _ | exact Kd.V_nil _ _ _ _ _ | exact Kd.Q_nil _ _ _ _ _ | exact Kd.S_nil _ _ _ _ _⟩, ⟨bl_⟩⟩
 case round =>
  clear H'
  obtain ⟨x3_1, x5_1, rfl, HA, HK1, HO_3, HB⟩ := hrel
  cases gk with
  | zero => exact absurd HA.out (by simp [Jl.l0])
  | succ k1 =>
   have H := HA.out
   clear HA
   simp only [Jl.l0] at H
   by_cases c2 : x5_1 < (a0.size : Int)
   ·rw [if_pos c2] at H
    have c2b0 : decide (x5_1 < (a0.size : Int)) = true := decide_eq_true c2
    clear c2
    revert H; refine nd_ fun c3 c3b0 => oy_ fun y408 Ny408 => nc_ fun c6 H => ?_
    have LMc6 := Aside0.mk c6
    clear c3 c6
    generalize e_ : (x3_1 ++ y408 : List Int) = y411 at H
    have Ny411 := Aside0.mk e_.symm
    clear e_
    have H' := Aside0.mk H
    clear H
    try go_wp2
    replace HB := Aside0.mk (below_drew1 HB.out)
    replace HO_3 := Aside0.mk (Kd.R_drew HO_3.out)
    have p4 := eq_true (ae_ : 0 ≤ (x5_1 : Int))
    have q4 := eq_true (ae_ : x5_1 < (a0.size : Int))
    have hx4 := bt_at a0 x5_1
    have p5 := eq_true (ae_ : 0 ≤ (x5_1 : Int))
    have q5 := eq_true (ae_ : x5_1 < (a0.size : Int))
    have hx5 := bt_at a0 x5_1
    refine sK_ 14 (fun w' => True) [] Jl.tab6 Jl.bits6 trivial fun hHeld HT_ HW_ => ?_
    generalize wr.drew = w7 at HO_3 HB hHeld ⊢
    refine runs_ [(0, some 13), (1, some 14), (2, some 15), (6, some 19), (7, some 20), (3, some 16), (4, some 17), (5, some 18), (8, some 21), (9, some 22), (10, some 23)] ?_
    (iterate 5 (refine pL_ ?_)); refine tL_ ?_; (iterate 2 (refine pL_ ?_)); refine tL_ ?_; (iterate 2 (refine pL_ ?_)); refine runsE_ ?_
    refine oK_ 11 (some 24) fun K hK => ?_
    refine Kd.R_lit_step (Kd.int .i64) _ 3 ?hg (N := 24) ?hd (xs := ([wrap64 (Int.tdiv (wrap64 (bt a0 x5_1)) 16), Int.tmod (wrap64 (bt a0 x5_1)) 16] : List Int)) (inner := [.int .i64 (wrap64 (Int.tdiv (wrap64 (bt a0 x5_1)) 16)), .int .i64 (Int.tmod (wrap64 (bt a0 x5_1)) 16)]) (ok := fun _ => True) (okp := fun _ => True) ?hr ?hp (fun _ hk => hk) trivial (Below.refl _ _) (Nat.le_refl _) (by simp) ?_; (case hd => rfl); (case hg => rfl); (case hr => exact gr_); (case hp => exact (Reps.one (show Kd.M (Kd.int .i64) _ _ _ (wrap64 (Int.tdiv (wrap64 (bt a0 x5_1)) 16)) [.int .i64 (wrap64 (Int.tdiv (wrap64 (bt a0 x5_1)) 16))] from rfl) (Reps.one (show Kd.M (Kd.int .i64) _ _ _ (Int.tmod (wrap64 (bt a0 x5_1)) 16) [.int .i64 (Int.tmod (wrap64 (bt a0 x5_1)) 16)] from rfl) (Reps.none _ _))))
    intro v409 w8 ho9 hb hg_ hnew_
    clear hg_ hnew_
    (first | rw [← Ny408.out] at ho9 | (simp only [Int.reduceToNat] at ho9; rw [← Ny408.out] at ho9))
    have HO410 := Aside0.mk (Kd.R_lower (Kd.R_new' ho9 (Kd.R_lt (mv_ HO_3.out))) (below_size bl_))
    replace HB := Aside0.mk (below_step bl_ hb)
    replace HO_3 := Aside0.mk (Kd.R_elder' (mv_ HO_3.out) (Kd.R_base ho9) hb)
    clear hb ho9
    obtain ⟨Ao11, co11, eo11⟩ := Kd.R_slice HO410.out
    (first | subst eo11 | (injection eo11 with f1_ f2_ f3_; have f4_ := f1_.symm; have f5_ := f3_.symm; clear f1_ f2_ f3_; subst f4_; subst f5_))
    refine hK.out _ _ trivial (fun hHeld => ?_)
    clear hK K
    refine nK_ (some 24) ?_
    refine oK_ 12 (some 25) fun K hK => ?_
    refine Kd.R_append_rows_step (Kd.int .i64) (w0 := w) w.heap.size (by rfl) (.tmp 13) (.tmp 24) 101 3 (.int .i64 0) 8 rfl Tryz.underlying101 info3 rfl (by decide) (by omega) u3 x3_1 y408 _ _ _ (fun k_ => some k_ ≠ (.slice Ao11 y408.length co11 : Value).ownBlock) (fun _ => False) rfl rfl ?aO ?aR (fun _ _ h => h) (fun _ h => h.elim) ?aF ?aB ?aS ?aL ?_
    (case aR => repeat (first | exact (Kd.R_reads' HO410.out).2.2 | (with_reducible refine Kd.C_alloc ?_ _) | (with_reducible refine Kd.C_drewN ?_ _) | (with_reducible refine Kd.C_drew ?_)))
    (case aB => exact bl_)
    (case aF => exact (fun k_ hk => Kd.fresh' (Kd.R_lt (mv_ HO410.out)) k_ hk))
    (case aO => exact (by refine mv_ ?_; exact Kd.R_mono HO_3.out (fun _ hk => hk.2)))
    (case aS => exact (below_size bl_))
    (case aL => have := LMc6.out; omega)
    intro v412 w10 ho hb hg hat
    rw [← Ny411.out] at ho
    have HO413 := Aside0.mk (ho)
    replace HB := Aside0.mk (hb)
    replace HO410 := Aside0.mk (Kd.R_after (ok := (fun _ => True)) (mv_ HO410.out) hg hat)
    clear HO_3
    clear ho hb hg hat
    refine hK.out _ _ trivial (fun hHeld => ?_)
    clear hK K
    refine nK_ (some 25) ?_
    refine pK_ 13 3 ?_
    refine dK_ ?_
    try go_wp2
    go_roundg k1
    case measure => have := HK1.out; omega
    case rel => exact ⟨(y411), (wrap64 (x5_1 + 1)), vq_, H', ⟨by have := HK1.out; omega⟩, ⟨by refine mv_ ?_; exact Kd.R_mono HO413.out (fun _ hk => trivial)⟩, ⟨bl_⟩⟩
   rw [if_neg c2] at H
   have c2b0 : decide (x5_1 < (a0.size : Int)) = false := decide_eq_false c2
   clear c2
   have H' := Aside0.mk H
   clear H
   go_wp2
   go_loopg [4, 6] k1 (fun kq v4 v6 w' => ∃ (x4_2 : Int) (x6_2 : Int), v4 = .int .i64 x4_2 ∧ v6 = .int .i64 x6_2 ∧ Aside0 (Jl.l1 kq x3_1 x4_2 x6_2 = some r) ∧ Aside0 (kq ≤ k1) ∧ Aside0 (Kd.R (Kd.int .i64) 3 w' w.heap.size (fun _ => True) u3 x3_1) ∧ Aside0 (Below w.heap.size w w'))
   case atStart => exact ⟨(0), (0), vq_, vq_, H', ⟨Nat.le_refl _⟩, ⟨mv_ HO_3.out⟩, ⟨bl_⟩⟩
   case round =>
    clear H'
    clear c2b0
    obtain ⟨x4_2, x6_2, rfl, rfl, HA, HK2, HO_3, HB⟩ := hrel
    cases gk with
    | zero => exact absurd HA.out (by simp [Jl.l1])
    | succ k2 =>
     have H := HA.out
     clear HA
     simp only [Jl.l1] at H
     by_cases c12 : x6_2 < (x3_1.length : Int)
     ·rw [if_pos c12] at H
      have c12b0 : decide (x6_2 < (x3_1.length : Int)) = true := decide_eq_true c12
      clear c12
      revert H; refine nd_ fun c13 c13b0 H => ?_
      clear c13
      have H' := Aside0.mk H
      clear H
      obtain ⟨Ao14, co14, eo14⟩ := Kd.R_slice HO_3.out
      subst eo14
      have p414 : 0 ≤ (x6_2 : Int) := ae_
      have q414 : x6_2 < (x3_1.length : Int) := ae_
      obtain ⟨ad414, e414, hx414_0⟩ := Kd.at_int (Kd.R_reads' HO_3.out).2.2 x6_2 p414 q414
      cases e414
      replace p414 := eq_true p414
      replace q414 := eq_true q414
      go_wp2
      go_roundg k2
      case measure => have := HK1.out; have := HK2.out; omega
      case rel => exact ⟨(wrap64 ((wrap64 (x4_2 + 15)) - (rd x3_1 x6_2))), (wrap64 (x6_2 + 1)), vq_, vq_, H', ⟨by have := HK1.out; have := HK2.out; omega⟩, ⟨mv_ HO_3.out⟩, ⟨bl_⟩⟩
     rw [if_neg c12] at H
     have c12b0 : decide (x6_2 < (x3_1.length : Int)) = false := decide_eq_false c12
     clear c12
     revert H; refine oy_ fun y415 Ny415 => nc_ fun c15 H => ?_
     have LMc15 := Aside0.mk c15
     clear c15
     generalize e_ : (x3_1 ++ y415 : List Int) = y418 at H
     have Ny418 := Aside0.mk e_.symm
     clear e_
     obtain rfl := Option.some.inj H
     obtain ⟨Ao16, co16, eo16⟩ := Kd.R_slice HO_3.out
     subst eo16
     go_wp2_with (first | ((with_reducible refine gate_dst (N := 47) rfl ?_); refine Kd.R_lit (Kd.int .i64) _ 3 ?hg (N := 47) ?hd (xs := ([wrap64 (Int.tdiv x4_2 256), Int.tmod (wrap64 (Int.tdiv x4_2 16)) 16, Int.tmod x4_2 16] : List Int)) (inner := [.int .i64 (wrap64 (Int.tdiv x4_2 256)), .int .i64 (Int.tmod (wrap64 (Int.tdiv x4_2 16)) 16), .int .i64 (Int.tmod x4_2 16)]) (ok := fun _ => True) (okp := fun _ => True) ?hr ?hp (fun _ hk => hk) trivial (Below.refl _ _) (Nat.le_refl _) (by simp) ?_; (case hd => rfl); (case hg => rfl); (case hr => exact gr_); (case hp => exact (Reps.one (show Kd.M (Kd.int .i64) _ _ _ (wrap64 (Int.tdiv x4_2 256)) [.int .i64 (wrap64 (Int.tdiv x4_2 256))] from rfl) (Reps.one (show Kd.M (Kd.int .i64) _ _ _ (Int.tmod (wrap64 (Int.tdiv x4_2 16)) 16) [.int .i64 (Int.tmod (wrap64 (Int.tdiv x4_2 16)) 16)] from rfl) (Reps.one (show Kd.M (Kd.int .i64) _ _ _ (Int.tmod x4_2 16) [.int .i64 (Int.tmod x4_2 16)] from rfl) (Reps.none _ _))))); intro v416 w17 ho18 hb hg_ hnew_; clear hg_ hnew_; (first | rw [← Ny415.out] at ho18 | (simp only [Int.reduceToNat] at ho18; rw [← Ny415.out] at ho18)); have HO417 := Aside0.mk (Kd.R_lower (Kd.R_new' ho18 (Kd.R_lt (mv_ HO_3.out))) (below_size bl_)); replace HB := Aside0.mk (below_step bl_ hb); replace HO_3 := Aside0.mk (Kd.R_elder' (mv_ HO_3.out) (Kd.R_base ho18) hb); clear hb ho18; obtain ⟨Ao20, co20, eo20⟩ := Kd.R_slice HO417.out; subst eo20) | ((with_reducible refine gate_builtin (b := .append) (xs := #[.tmp 39, .tmp 47]) rfl ?_); at_builtin; refine Kd.R_append_rows (Kd.int .i64) (w0 := w) w.heap.size rfl (.tmp 39) (.tmp 47) 101 3 (.int .i64 0) 8 rfl Tryz.underlying101 info3 rfl (by decide) (by omega) (.slice Ao16 x3_1.length co16) x3_1 y415 _ _ _ (fun k_ => some k_ ≠ (.slice Ao20 y415.length co20 : Value).ownBlock) (fun _ => False) rfl rfl ?aO ?aR (fun _ _ h => h) (fun _ h => h.elim) ?aF ?aB ?aS ?aL ?_; (case aR => repeat (first | exact (Kd.R_reads' HO417.out).2.2 | (with_reducible refine Kd.C_alloc ?_ _) | (with_reducible refine Kd.C_drewN ?_ _) | (with_reducible refine Kd.C_drew ?_))); (case aB => exact bl_); (case aF => exact (fun k_ hk => Kd.fresh' (Kd.R_lt (mv_ HO417.out)) k_ hk)); (case aO => exact (by refine mv_ ?_; exact Kd.R_mono HO_3.out (fun _ hk => hk.2))); (case aS => exact (below_size bl_)); (case aL => have := LMc15.out; omega); intro v419 w19 ho hb hg hat; rw [← Ny418.out] at ho; have HO420 := Aside0.mk (ho); replace HB := Aside0.mk (hb); replace HO417 := Aside0.mk (Kd.R_after (ok := (fun _ => True)) (mv_ HO417.out) hg hat); clear HO_3; clear ho hb hg hat))
     go_ret
     exact ⟨_, er_, by refine mv_ ?_; exact Kd.R_mono HO420.out (fun _ hk => trivial), bl_⟩

/-! ### Uh = palaverref03_Step: function 61 -/
def Uh.f (k : Nat) (a0 : Int) (a1 : ByteArray) : Option (ByteArray) := (Jc.f k (Int.tmod (wrap64 ((Int.tmod a0 256) + 256)) 256) 1).bind fun bt421 => ((Jq.f k 1 (([bt421.1, a1] : List ByteArray))).bind fun t426 => (some t426))
set_option maxHeartbeats 64000000 in
set_option maxRecDepth 100000 in
theorem Uh.calls (k : Nat) (a0 : Int) (a1 : ByteArray) (r : ByteArray) (w : World) (h : Uh.f k a0 a1 = some r) :
 Calls Tryz.prog 61 #[.int .i64 a0, .string a1] w fun e w' => e = .returned (.string r) ∧ Below w.heap.size w w' := by
 have HB := Aside0.mk (Below.refl w.heap.size w)
 have H : ((Jc.f k (Int.tmod (wrap64 ((Int.tmod a0 256) + 256)) 256) 1).bind fun bt421 => ((Jq.f k 1 (([bt421.1, a1] : List ByteArray))).bind fun t426 => (some t426))) = some r := h
 clear h
 replace H := ob_ H
 obtain ⟨⟨t421, t422⟩, A30, H⟩ := H
 replace H : ((Jq.f k 1 (([t421, a1] : List ByteArray))).bind fun t426 => (some t426)) = some r := H
 have A3 := Aside0.mk A30
 clear A30
 generalize e_ : (([t421, a1] : List ByteArray) : List ByteArray) = y423 at H
 have Ny423 := Aside0.mk e_.symm
 clear e_
 revert H; refine oa_ fun t426 A4 H => ?_
 obtain rfl := Option.some.inj H
 go_enter Tryz.func61, Tryz.ntmps61
 go_wp2_with (first | ((with_reducible refine gate_callee (f := 33) rfl ?_); refine gL_ 12 Tryz.func33 #[.int .i64 (Int.tmod (wrap64 ((Int.tmod a0 256) + 256)) 256), .int .i64 1] ?_; (with_reducible refine (Jc.calls k (Int.tmod (wrap64 ((Int.tmod a0 256) + 256)) 256) 1 t421 t422 _ A3.out).mono ?_); rintro e w5 ⟨rfl, hb⟩; refine ⟨_, rfl, ?_⟩; replace HB := Aside0.mk (below_step bl_ hb); clear hb) | ((with_reducible refine gate_dst (N := 17) rfl ?_); refine Kd.R_lit Kd.string _ 9 ?hg (N := 17) ?hd (xs := ([t421, a1] : List ByteArray)) (inner := [.string t421, .string a1]) (ok := fun _ => True) (okp := fun _ => True) ?hr ?hp (fun _ hk => hk) trivial (Below.refl _ _) (Nat.le_refl _) (by simp) ?_; (case hd => rfl); (case hg => rfl); (case hr => exact gr_); (case hp => exact (Reps.one (show Kd.M Kd.string _ _ _ t421 [.string t421] from rfl) (Reps.one (show Kd.M Kd.string _ _ _ a1 [.string a1] from rfl) (Reps.none _ _)))); intro v424 w6 ho7 hb hg_ hnew_; clear hg_ hnew_; (first | rw [← Ny423.out] at ho7 | (simp only [Int.reduceToNat] at ho7; rw [← Ny423.out] at ho7)); have HO425 := Aside0.mk (Kd.R_lower ho7 (below_size bl_)); replace HB := Aside0.mk (below_step bl_ hb); clear hb ho7; obtain ⟨Ao8, co8, eo8⟩ := Kd.R_slice HO425.out; subst eo8) | ((with_reducible refine gate_callee (f := 31) rfl ?_); refine gL_ 18 Tryz.func31 #[.int .i64 1, .slice Ao8 y423.length co8] ?_; (with_reducible refine (Jq.calls k 1 _ _ y423 t426 _ ?side1 ?side2 A4.out).mono ?_); (case side1 => repeat (first | exact (Kd.R_reads' HO425.out).2.2 | (with_reducible refine Kd.C_alloc ?_ _) | (with_reducible refine Kd.C_drewN ?_ _) | (with_reducible refine Kd.C_drew ?_))); (case side2 => exact (Kd.R_reads' HO425.out).2.1); rintro e w9 ⟨rfl, hb⟩; refine ⟨_, rfl, ?_⟩; replace HB := Aside0.mk (below_step bl_ hb); replace HO425 := Aside0.mk (Kd.R_below (mv_ HO425.out) hb); clear hb))
 go_ret
 exact ⟨er_, bl_⟩

/-! ### Jm = palaverref03_Recover: function 30 -/
mutual
def Jm.l0 : Nat → List ByteArray → List Int → List ByteArray → List ByteArray → Int → Option (ByteArray × List ByteArray)
 | 0, _, _, _, _, _ => none
 | k + 1, x1, x6, x7, x8, x9 => if x9 < 67 then (if 0 ≤ x9 then (if x9 < (x1.length : Int) then ((Jc.f k x9 1).bind fun bt436 => (if x9 < (x6.length : Int) then (Jm.l1 k x1 x6 x7 x8 x9 (rdOf ByteArray.empty x1 x9) bt436.1 (rd x6 x9)) else (none))) else (none)) else (none)) else ((Jq.f k 3 x7).bind fun t430 => ((Jh.f k 3 x7).bind fun t431 => (if x8.length < 8796093022208 then (some (t430, (x8 ++ [t431]))) else (none))))
def Jm.l1 : Nat → List ByteArray → List Int → List ByteArray → List ByteArray → Int → ByteArray → ByteArray → Int → Option (ByteArray × List ByteArray)
 | 0, _, _, _, _, _, _, _, _ => none
 | k + 1, x1, x6, x7, x8, x9, x10, x11, x13 => if x13 < 15 then ((Jh.f k 1 (([x11, x10] : List ByteArray))).bind fun t442 => (if x8.length < 8796093022208 then ((Uh.f k x9 x10).bind fun t446 => (Jm.l1 k x1 x6 x7 (x8 ++ [t442]) x9 t446 x11 (wrap64 (x13 + 1)))) else (none))) else (if x7.length < 8796093022208 then (Jm.l0 k x1 x6 (x7 ++ [x10]) x8 (wrap64 (x9 + 1))) else (none))
end
def Jm.f (k : Nat) (a0 : ByteArray) (l1 : List ByteArray) : Option (ByteArray × List ByteArray) := (Jl.f k a0).bind fun t427 => (Jm.l0 k l1 t427 ([] : List ByteArray) ([] : List ByteArray) 0)
set_option maxHeartbeats 64000000 in
set_option maxRecDepth 100000 in
theorem Jm.calls (k : Nat) (a0 : ByteArray) (A1 : Option Addr) (c1 : Nat) (l1 : List ByteArray) (r1 : ByteArray) (r2 : List ByteArray) (w : World) (hr1 : Kd.C Kd.string w A1 l1.length l1) (hc1 : l1.length ≤ c1) (h : Jm.f k a0 l1 = some (r1, r2)) :
 Calls Tryz.prog 30 #[.string a0, .slice A1 l1.length c1] w fun e w' => ∃ v1_ : Value, e = .returned (.tuple #[.string r1, v1_]) ∧ Kd.R Kd.string 9 w' w.heap.size (fun _ => True) v1_ r2 ∧ Below w.heap.size w w' := by
 have HR1 := Aside0.mk hr1
 have HC1 := Aside0.mk hc1
 clear hr1 hc1
 have HB := Aside0.mk (Below.refl w.heap.size w)
 have H : ((Jl.f k a0).bind fun t427 => (Jm.l0 k l1 t427 ([] : List ByteArray) ([] : List ByteArray) 0)) = some (r1, r2) := h
 clear h
 revert H; refine oa_ fun t427 A3 H => ?_
 have H' := Aside0.mk H
 clear H
 go_enter Tryz.func30, Tryz.ntmps30
 go_wp2_with (first | ((with_reducible refine gate_callee (f := 60) rfl ?_); refine gL_ 15 Tryz.func60 #[.string a0] ?_; (with_reducible refine (Jl.calls k a0 t427 _ A3.out).mono ?_); rintro e w4 ⟨v428, rfl, ho0, hb⟩; refine ⟨_, rfl, ?_⟩; have HO429 := Aside0.mk (Kd.R_lower ho0 (below_size bl_)); replace HB := Aside0.mk (below_step bl_ hb); clear hb ho0))
 go_loopg [7, 8, 9] k (fun kq v7 v8 v9 w' => ∃ (x7_1 : List ByteArray) (x8_1 : List ByteArray) (x9_1 : Int), v9 = .int .i64 x9_1 ∧ Aside0 (Jm.l0 kq l1 t427 x7_1 x8_1 x9_1 = some (r1, r2)) ∧ Aside0 (kq ≤ k) ∧ Aside0 (Kd.R (Kd.int .i64) 3 w' w.heap.size (fun _ => True) v428 t427) ∧ Aside0 (Kd.R Kd.string 9 w' w.heap.size (fun k_ => some k_ ≠ (v8 : Value).ownBlock) v7 x7_1) ∧ Aside0 (Kd.R Kd.string 9 w' w.heap.size (fun k_ => some k_ ≠ (v7 : Value).ownBlock) v8 x8_1) ∧ Aside0 (Below w.heap.size w w'))
 case atStart => exact ⟨(([] : List ByteArray)), (([] : List ByteArray)), (0), vq_, H', ⟨Nat.le_refl _⟩, ⟨mv_ HO429.out⟩, ⟨by first | exact Kd.R_nil _ _ _ _ _ | exact Kd.N_nil _ _ _ _ _ | exact Kd.V_nil _ _ _ _ _ | exact Kd.Q_nil _ _ _ _ _ | exact Kd.S_nil _ _ _ _ _⟩, ⟨by first | exact Kd.R_nil _ _ _ _ _ | exact Kd.N_nil _ _ _ _ _ | exact Kd.V_nil _ _ _ _ _ | exact Kd.Q_nil _ _ _ _ _ | exact Kd.S_nil _ _ _ _ _⟩, ⟨bl_⟩⟩
 case round =>
  clear H'
  obtain ⟨x7_1, x8_1, x9_1, rfl, HA, HK1, HO_6, HO_7, HO_8, HB⟩ := hrel
  cases gk with
  | zero => exact absurd HA.out (by simp [Jm.l0])
  | succ k1 =>
   have H := HA.out
   clear HA
   simp only [Jm.l0] at H
   by_cases c5 : x9_1 < 67
   ·rw [if_pos c5] at H
    have c5b0 : decide (x9_1 < 67) = true := decide_eq_true c5
    clear c5
    revert H; refine nd_ fun c6 c6b0 => nd_ fun c7 c7b0 H => ?_
    clear c6 c7
    replace H := ob_ H
    obtain ⟨⟨t436, t437⟩, A80, H⟩ := H
    replace H : (if x9_1 < (t427.length : Int) then (Jm.l1 k1 l1 t427 x7_1 x8_1 x9_1 (rdOf ByteArray.empty l1 x9_1) t436 (rd t427 x9_1)) else (none)) = some (r1, r2) := H
    have A8 := Aside0.mk A80
    clear A80
    revert H; refine nd_ fun c9 c9b0 H => ?_
    clear c9
    have H' := Aside0.mk H
    clear H
    have p435 : 0 ≤ (x9_1 : Int) := ae_
    have q435 : x9_1 < (l1.length : Int) := ae_
    obtain ⟨ad435, e435, hx435_0⟩ := Kd.at_string HR1.out x9_1 p435 q435
    cases e435
    replace hx435_0 := (HB.out.cell (World.block_lt_of_cell? w _ hx435_0)).trans hx435_0
    replace p435 := eq_true p435
    replace q435 := eq_true q435
    go_wp2_with (first | ((with_reducible refine gate_callee (f := 33) rfl ?_); refine gL_ 26 Tryz.func33 #[.int .i64 x9_1, .int .i64 1] ?_; (with_reducible refine (Jc.calls k1 x9_1 1 t436 t437 _ A8.out).mono ?_); rintro e w10 ⟨rfl, hb⟩; refine ⟨_, rfl, ?_⟩; replace HB := Aside0.mk (below_step bl_ hb); replace HO_8 := Aside0.mk (Kd.R_below (mv_ HO_8.out) hb); replace HO_7 := Aside0.mk (Kd.R_below (mv_ HO_7.out) hb); replace HO_6 := Aside0.mk (Kd.R_below (mv_ HO_6.out) hb); clear hb; obtain ⟨Ao11, co11, eo11⟩ := Kd.R_slice HO_6.out; subst eo11; have p438 : 0 ≤ (x9_1 : Int) := ae_; have q438 : x9_1 < (t427.length : Int) := ae_; obtain ⟨ad438, e438, hx438_0⟩ := Kd.at_int (Kd.R_reads' HO_6.out).2.2 x9_1 p438 q438; cases e438; replace p438 := eq_true p438; replace q438 := eq_true q438))
    go_loopg [8, 10, 13] k1 (fun kq v8 v10 v13 w' => ∃ (x8_2 : List ByteArray) (x10_2 : ByteArray) (x13_2 : Int), v10 = .string x10_2 ∧ v13 = .int .i64 x13_2 ∧ Aside0 (Jm.l1 kq l1 t427 x7_1 x8_2 x9_1 x10_2 t436 x13_2 = some (r1, r2)) ∧ Aside0 (kq ≤ k1) ∧ Aside0 (Kd.R (Kd.int .i64) 3 w' w.heap.size (fun _ => True) (.slice (some ad438) t427.length co11) t427) ∧ Aside0 (Kd.R Kd.string 9 w' w.heap.size (fun k_ => some k_ ≠ (v8 : Value).ownBlock) u7 x7_1) ∧ Aside0 (Kd.R Kd.string 9 w' w.heap.size (fun k_ => some k_ ≠ (u7 : Value).ownBlock) v8 x8_2) ∧ Aside0 (Below w.heap.size w w'))
    case atStart => exact ⟨(x8_1), (rdOf ByteArray.empty l1 x9_1), (rd t427 x9_1), vq_, vq_, H', ⟨Nat.le_refl _⟩, ⟨mv_ HO_6.out⟩, ⟨mv_ HO_7.out⟩, ⟨mv_ HO_8.out⟩, ⟨bl_⟩⟩
    case round =>
     clear H'
     clear c5b0 c6b0 c7b0 c9b0 hx435_0 hx438_0 p435 p438 q435 q438
     obtain ⟨x8_2, x10_2, x13_2, rfl, rfl, HA, HK2, HO_6, HO_7, HO_8, HB⟩ := hrel
     cases gk with
     | zero => exact absurd HA.out (by simp [Jm.l1])
     | succ k2 =>
      have H := HA.out
      clear HA
      simp only [Jm.l1] at H
      by_cases c12 : x13_2 < 15
      ·rw [if_pos c12] at H
       have c12b0 : decide (x13_2 < 15) = true := decide_eq_true c12
       clear c12
       generalize e_ : (([t436, x10_2] : List ByteArray) : List ByteArray) = y439 at H
       have Ny439 := Aside0.mk e_.symm
       clear e_
       revert H; refine oa_ fun t442 A13 => nc_ fun c14 H => ?_
       have LMc14 := Aside0.mk c14
       clear c14
       generalize e_ : (x8_2 ++ [t442] : List ByteArray) = y443 at H
       have Ny443 := Aside0.mk e_.symm
       clear e_
       revert H; refine oa_ fun t446 A15 H => ?_
       have H' := Aside0.mk H
       clear H
       go_wp2_with (first | ((with_reducible refine gate_dst (N := 40) rfl ?_); refine Kd.R_lit Kd.string _ 9 ?hg (N := 40) ?hd (xs := ([t436, x10_2] : List ByteArray)) (inner := [.string t436, .string x10_2]) (ok := fun _ => True) (okp := fun _ => True) ?hr ?hp (fun _ hk => hk) trivial (Below.refl _ _) (Nat.le_refl _) (by simp) ?_; (case hd => rfl); (case hg => rfl); (case hr => exact gr_); (case hp => exact (Reps.one (show Kd.M Kd.string _ _ _ t436 [.string t436] from rfl) (Reps.one (show Kd.M Kd.string _ _ _ x10_2 [.string x10_2] from rfl) (Reps.none _ _)))); intro v440 w16 ho17 hb hg_ hnew_; clear hg_ hnew_; (first | rw [← Ny439.out] at ho17 | (simp only [Int.reduceToNat] at ho17; rw [← Ny439.out] at ho17)); have HO441 := Aside0.mk (Kd.R_lower (Kd.R_new' (Kd.R_new' ho17 (Kd.R_lt (mv_ HO_7.out))) (Kd.R_lt (mv_ HO_8.out))) (below_size bl_)); replace HB := Aside0.mk (below_step bl_ hb); replace HO_8 := Aside0.mk (Kd.R_elder' (mv_ HO_8.out) (Kd.R_base ho17) hb); replace HO_7 := Aside0.mk (Kd.R_elder' (mv_ HO_7.out) (Kd.R_base ho17) hb); replace HO_6 := Aside0.mk (Kd.R_below (mv_ HO_6.out) hb); clear hb ho17; obtain ⟨Ao18, co18, eo18⟩ := Kd.R_slice HO441.out; subst eo18) | ((with_reducible refine gate_callee (f := 34) rfl ?_); refine gL_ 41 Tryz.func34 #[.int .i64 1, .slice Ao18 y439.length co18] ?_; (with_reducible refine (Jh.calls k2 1 _ _ y439 t442 _ ?side1 ?side2 A13.out).mono ?_); (case side1 => repeat (first | exact (Kd.R_reads' HO441.out).2.2 | (with_reducible refine Kd.C_alloc ?_ _) | (with_reducible refine Kd.C_drewN ?_ _) | (with_reducible refine Kd.C_drew ?_))); (case side2 => exact (Kd.R_reads' HO441.out).2.1); rintro e w19 ⟨rfl, hb⟩; refine ⟨_, rfl, ?_⟩; replace HB := Aside0.mk (below_step bl_ hb); replace HO441 := Aside0.mk (Kd.R_below (mv_ HO441.out) hb); replace HO_8 := Aside0.mk (Kd.R_below (mv_ HO_8.out) hb); replace HO_7 := Aside0.mk (Kd.R_below (mv_ HO_7.out) hb); replace HO_6 := Aside0.mk (Kd.R_below (mv_ HO_6.out) hb); clear hb) | ((with_reducible refine gate_builtin (b := .append) (xs := #[.tmp 37, .tmp 42]) rfl ?_); at_builtin; refine Kd.R_append Kd.string (w0 := w) w.heap.size rfl (.tmp 37) (.tmp 42) 22 9 (.string ⟨#[]⟩) 16 rfl Tryz.underlying22 info9 rfl (by decide) (by omega) u8 x8_2 t442 [.string t442] (fun k_ => some k_ ≠ (u7 : Value).ownBlock ∧ some k_ ≠ (.slice Ao18 y439.length co18 : Value).ownBlock) (fun _ => False) rfl rfl ?aP (fun _ hk => hk.elim) ?aF ?aO ?aB ?aS ?aL ?_; (case aP => exact rfl); (case aB => exact bl_); (case aF => exact (fun k_ hk => ⟨Kd.fresh' (Kd.R_lt (mv_ HO_7.out)) k_ hk, Kd.fresh' (Kd.R_lt (mv_ HO441.out)) k_ hk⟩)); (case aO => exact (mv_ HO_8.out)); (case aS => exact (below_size bl_)); (case aL => have := LMc14.out; omega); intro v444 w20 ho hb hg hat; rw [← Ny443.out] at ho; have HO445 := Aside0.mk (ho); replace HB := Aside0.mk (hb); replace HO441 := Aside0.mk (Kd.R_after (ok := (fun k_ => some k_ ≠ (u7 : Value).ownBlock)) (by refine mv_ ?_; exact Kd.R_mono HO441.out (fun _ hk => ⟨hk.1.2, hk.2⟩)) hg hat); replace HO_7 := Aside0.mk (Kd.R_after (ok := (fun k_ => some k_ ≠ (.slice Ao18 y439.length co18 : Value).ownBlock)) (by refine mv_ ?_; exact Kd.R_mono HO_7.out (fun _ hk => ⟨hk.2, hk.1⟩)) hg hat); replace HO_6 := Aside0.mk (Kd.R_over' (mv_ HO_6.out) (Kd.R_typed (mv_ HO_8.out)) (by decide) hg); clear HO_8; clear ho hb hg hat) | ((with_reducible refine gate_callee (f := 61) rfl ?_); refine gL_ 46 Tryz.func61 #[.int .i64 x9_1, .string x10_2] ?_; (with_reducible refine (Uh.calls k2 x9_1 x10_2 t446 _ A15.out).mono ?_); rintro e w21 ⟨rfl, hb⟩; refine ⟨_, rfl, ?_⟩; replace HB := Aside0.mk (below_step bl_ hb); replace HO445 := Aside0.mk (Kd.R_below (mv_ HO445.out) hb); replace HO441 := Aside0.mk (Kd.R_below (mv_ HO441.out) hb); replace HO_7 := Aside0.mk (Kd.R_below (mv_ HO_7.out) hb); replace HO_6 := Aside0.mk (Kd.R_below (mv_ HO_6.out) hb); clear hb))
       go_roundg k2
       case measure => have := HK1.out; have := HK2.out; omega
       case rel => exact ⟨(y443), (t446), (wrap64 (x13_2 + 1)), vq_, vq_, H', ⟨by have := HK1.out; have := HK2.out; omega⟩, ⟨mv_ HO_6.out⟩, ⟨by refine mv_ ?_; exact Kd.R_mono HO_7.out (fun _ hk => hk.2)⟩, ⟨by refine mv_ ?_; exact Kd.R_mono HO445.out (fun _ hk => hk.1)⟩, ⟨bl_⟩⟩
      rw [if_neg c12] at H
      have c12b0 : decide (x13_2 < 15) = false := decide_eq_false c12
      clear c12
      revert H; refine nc_ fun c22 H => ?_
      have LMc22 := Aside0.mk c22
      clear c22
      generalize e_ : (x7_1 ++ [x10_2] : List ByteArray) = y447 at H
      have Ny447 := Aside0.mk e_.symm
      clear e_
      have H' := Aside0.mk H
      clear H
      go_wp2_with (first | ((with_reducible refine gate_builtin (b := .append) (xs := #[.tmp 47, .tmp 49]) rfl ?_); at_builtin; refine Kd.R_append Kd.string (w0 := w) w.heap.size rfl (.tmp 47) (.tmp 49) 22 9 (.string ⟨#[]⟩) 16 rfl Tryz.underlying22 info9 rfl (by decide) (by omega) u7 x7_1 x10_2 [.string x10_2] (fun k_ => some k_ ≠ (u8 : Value).ownBlock) (fun _ => False) rfl rfl ?aP (fun _ hk => hk.elim) ?aF ?aO ?aB ?aS ?aL ?_; (case aP => exact rfl); (case aB => exact bl_); (case aF => exact (fun k_ hk => Kd.fresh' (Kd.R_lt (mv_ HO_8.out)) k_ hk)); (case aO => exact (mv_ HO_7.out)); (case aS => exact (below_size bl_)); (case aL => have := LMc22.out; omega); intro v448 w23 ho hb hg hat; rw [← Ny447.out] at ho; have HO449 := Aside0.mk (ho); replace HB := Aside0.mk (hb); replace HO_8 := Aside0.mk (Kd.R_after (ok := (fun _ => True)) (by refine mv_ ?_; exact Kd.R_mono HO_8.out (fun _ hk => ⟨trivial, hk⟩)) hg hat); replace HO_6 := Aside0.mk (Kd.R_over' (mv_ HO_6.out) (Kd.R_typed (mv_ HO_7.out)) (by decide) hg); clear HO_7; clear ho hb hg hat))
      go_roundg k2
      case measure => have := HK1.out; have := HK2.out; omega
      case rel => exact ⟨(y447), (x8_2), (wrap64 (x9_1 + 1)), vq_, H', ⟨by have := HK1.out; have := HK2.out; omega⟩, ⟨mv_ HO_6.out⟩, ⟨mv_ HO449.out⟩, ⟨by refine mv_ ?_; exact Kd.R_mono HO_8.out (fun _ hk => hk.2)⟩, ⟨bl_⟩⟩
   rw [if_neg c5] at H
   have c5b0 : decide (x9_1 < 67) = false := decide_eq_false c5
   clear c5
   revert H; refine oa_ fun t430 A24 => oa_ fun t431 A25 => nc_ fun c26 H => ?_
   have LMc26 := Aside0.mk c26
   clear c26
   generalize e_ : (x8_1 ++ [t431] : List ByteArray) = y432 at H
   have Ny432 := Aside0.mk e_.symm
   clear e_
   simp only [Option.some.injEq, Prod.mk.injEq] at H
   obtain ⟨rfl, rfl⟩ := H
   obtain ⟨Ao27, co27, eo27⟩ := Kd.R_slice HO_7.out
   subst eo27
   go_wp2_with (first | ((with_reducible refine gate_callee (f := 31) rfl ?_); refine gL_ 52 Tryz.func31 #[.int .i64 3, .slice Ao27 x7_1.length co27] ?_; (with_reducible refine (Jq.calls k1 3 _ _ x7_1 t430 _ ?side1 ?side2 A24.out).mono ?_); (case side1 => repeat (first | exact (Kd.R_reads' HO_7.out).2.2 | (with_reducible refine Kd.C_alloc ?_ _) | (with_reducible refine Kd.C_drewN ?_ _) | (with_reducible refine Kd.C_drew ?_))); (case side2 => exact (Kd.R_reads' HO_7.out).2.1); rintro e w28 ⟨rfl, hb⟩; refine ⟨_, rfl, ?_⟩; replace HB := Aside0.mk (below_step bl_ hb); replace HO_8 := Aside0.mk (Kd.R_below (mv_ HO_8.out) hb); replace HO_7 := Aside0.mk (Kd.R_below (mv_ HO_7.out) hb); replace HO_6 := Aside0.mk (Kd.R_below (mv_ HO_6.out) hb); clear hb) | ((with_reducible refine gate_callee (f := 34) rfl ?_); refine gL_ 55 Tryz.func34 #[.int .i64 3, .slice Ao27 x7_1.length co27] ?_; (with_reducible refine (Jh.calls k1 3 _ _ x7_1 t431 _ ?side1 ?side2 A25.out).mono ?_); (case side1 => repeat (first | exact (Kd.R_reads' HO_7.out).2.2 | (with_reducible refine Kd.C_alloc ?_ _) | (with_reducible refine Kd.C_drewN ?_ _) | (with_reducible refine Kd.C_drew ?_))); (case side2 => exact (Kd.R_reads' HO_7.out).2.1); rintro e w29 ⟨rfl, hb⟩; refine ⟨_, rfl, ?_⟩; replace HB := Aside0.mk (below_step bl_ hb); replace HO_8 := Aside0.mk (Kd.R_below (mv_ HO_8.out) hb); replace HO_7 := Aside0.mk (Kd.R_below (mv_ HO_7.out) hb); replace HO_6 := Aside0.mk (Kd.R_below (mv_ HO_6.out) hb); clear hb) | ((with_reducible refine gate_builtin (b := .append) (xs := #[.tmp 53, .tmp 56]) rfl ?_); at_builtin; refine Kd.R_append Kd.string (w0 := w) w.heap.size rfl (.tmp 53) (.tmp 56) 22 9 (.string ⟨#[]⟩) 16 rfl Tryz.underlying22 info9 rfl (by decide) (by omega) u8 x8_1 t431 [.string t431] (fun k_ => some k_ ≠ (.slice Ao27 x7_1.length co27 : Value).ownBlock) (fun _ => False) rfl rfl ?aP (fun _ hk => hk.elim) ?aF ?aO ?aB ?aS ?aL ?_; (case aP => exact rfl); (case aB => exact bl_); (case aF => exact (fun k_ hk => Kd.fresh' (Kd.R_lt (mv_ HO_7.out)) k_ hk)); (case aO => exact (mv_ HO_8.out)); (case aS => exact (below_size bl_)); (case aL => have := LMc26.out; omega); intro v433 w30 ho hb hg hat; rw [← Ny432.out] at ho; have HO434 := Aside0.mk (ho); replace HB := Aside0.mk (hb); replace HO_7 := Aside0.mk (Kd.R_after (ok := (fun _ => True)) (by refine mv_ ?_; exact Kd.R_mono HO_7.out (fun _ hk => ⟨trivial, hk⟩)) hg hat); replace HO_6 := Aside0.mk (Kd.R_over' (mv_ HO_6.out) (Kd.R_typed (mv_ HO_8.out)) (by decide) hg); clear HO_8; clear ho hb hg hat))
   go_ret2
   exact ⟨_, er_, by refine mv_ ?_; exact Kd.R_mono HO434.out (fun _ hk => trivial), bl_⟩

/-! ### Jg = palaverref04_Fold: function 32 -/
mutual
def Jg.j1 : Nat → ByteArray → Int → List ByteArray → Int → Option (ByteArray × List ByteArray × Bool)
 | 0, _, _, _, _ => none
 | k + 1, x0, x1, x2, x9 => if (x2.length : Int) > 4 then (Jg.j2 k x0 x1 x2 true) else (if x1 < 0 then (Jg.j2 k x0 x1 x2 true) else (Jg.j2 k x0 x1 x2 (decide (x1 ≥ x9))))
def Jg.j2 : Nat → ByteArray → Int → List ByteArray → Bool → Option (ByteArray × List ByteArray × Bool)
 | 0, _, _, _, _ => none
 | k + 1, x0, x1, x2, x38 => if x38 = true then (some ((⟨#[]⟩ : ByteArray), ([] : List ByteArray), false)) else (Jg.l1 k x0 x1 x2 ([] : List ByteArray) 0)
def Jg.l1 : Nat → ByteArray → Int → List ByteArray → List ByteArray → Int → Option (ByteArray × List ByteArray × Bool)
 | 0, _, _, _, _, _ => none
 | k + 1, x0, x1, x2, x11, x12 => if x12 < (x2.length : Int) then (if 0 ≤ x12 then (if (Int.tmod x1 2) = 1 then ((Jh.f k 4 (([rdOf ByteArray.empty x2 x12, x0] : List ByteArray))).bind fun t455 => (if x11.length < 8796093022208 then ((Jq.f k 4 (([rdOf ByteArray.empty x2 x12, x0] : List ByteArray))).bind fun t462 => (Jg.l1 k t462 (wrap64 (Int.tdiv x1 2)) x2 (x11 ++ [t455]) (wrap64 (x12 + 1)))) else (none))) else ((Jh.f k 4 (([x0, rdOf ByteArray.empty x2 x12] : List ByteArray))).bind fun t466 => (if x11.length < 8796093022208 then ((Jq.f k 4 (([x0, rdOf ByteArray.empty x2 x12] : List ByteArray))).bind fun t473 => (Jg.l1 k t473 (wrap64 (Int.tdiv x1 2)) x2 (x11 ++ [t466]) (wrap64 (x12 + 1)))) else (none)))) else (none)) else (some (x0, x11, true))
def Jg.l0 : Nat → ByteArray → Int → List ByteArray → Int → Int → Option (ByteArray × List ByteArray × Bool)
 | 0, _, _, _, _, _ => none
 | k + 1, x0, x1, x2, x9, x10 => if x10 < (x2.length : Int) then (if x10 < 5 then (Jg.l0 k x0 x1 x2 (wrap64 (2 * x9)) (wrap64 (x10 + 1))) else (Jg.j1 k x0 x1 x2 x9)) else (Jg.j1 k x0 x1 x2 x9)
end
def Jg.f (k : Nat) (a0 : ByteArray) (a1 : Int) (l2 : List ByteArray) : Option (ByteArray × List ByteArray × Bool) := Jg.l0 k a0 a1 l2 1 0
set_option maxHeartbeats 64000000 in
set_option maxRecDepth 100000 in
theorem Jg.calls (k : Nat) (a0 : ByteArray) (a1 : Int) (A2 : Option Addr) (c2 : Nat) (l2 : List ByteArray) (r1 : ByteArray) (r2 : List ByteArray) (r3 : Bool) (w : World) (hr2 : Kd.C Kd.string w A2 l2.length l2) (hc2 : l2.length ≤ c2) (h : Jg.f k a0 a1 l2 = some (r1, r2, r3)) :
 Calls Tryz.prog 32 #[.string a0, .int .i64 a1, .slice A2 l2.length c2] w fun e w' => ∃ v1_ : Value, e = .returned (.tuple #[.string r1, v1_, .bool r3]) ∧ Kd.R Kd.string 9 w' w.heap.size (fun _ => True) v1_ r2 ∧ Below w.heap.size w w' := by
 have HR2 := Aside0.mk hr2
 have HC2 := Aside0.mk hc2
 clear hr2 hc2
 have HB := Aside0.mk (Below.refl w.heap.size w)
 have H : (Jg.l0 k a0 a1 l2 1 0) = some (r1, r2, r3) := h
 clear h
 have HC4 := Aside0.mk H
 clear H
 go_enter Tryz.func32, Tryz.ntmps32
 go_upto_block 0 with (fail)
 repeat (go_quiet (fail); go_upto_block 0 with (fail))
 go_cut [9] (fun v9 wc => ∃ (kq : Nat) (x9_3 : Int), v9 = .int .i64 x9_3 ∧ Aside0 (Jg.j1 kq a0 a1 l2 x9_3 = some (r1, r2, r3)) ∧ Aside0 (kq ≤ k) ∧ Aside0 (Below w.heap.size w wc))
 case first =>
  have H := HC4.out
  clear HC4
  have H' := Aside0.mk H
  clear H
  go_wp2
  repeat (go_quiet (fail); try go_wp2)
  go_loopg [9, 10] k (fun kq v9 v10 w' => ∃ (x9_1 : Int) (x10_1 : Int), v9 = .int .i64 x9_1 ∧ v10 = .int .i64 x10_1 ∧ Aside0 (Jg.l0 kq a0 a1 l2 x9_1 x10_1 = some (r1, r2, r3)) ∧ Aside0 (kq ≤ k) ∧ Aside0 (Below w.heap.size w w'))
  case atStart => exact ⟨(1), (0), vq_, vq_, H', ⟨Nat.le_refl _⟩, ⟨bl_⟩⟩
  case round =>
   clear H'
   obtain ⟨x9_1, x10_1, rfl, rfl, HA, HK1, HB⟩ := hrel
   cases gk with
   | zero => exact absurd HA.out (by simp [Jg.l0])
   | succ k1 =>
    have H := HA.out
    clear HA
    simp only [Jg.l0] at H
    by_cases c5 : x10_1 < (l2.length : Int)
    ·rw [if_pos c5] at H
     have c5b0 : decide (x10_1 < (l2.length : Int)) = true := decide_eq_true c5
     clear c5
     (first | rw [c5b0] | (simp only [i64_w, i32_w]; rw [c5b0]) | skip)
     by_cases c6 : x10_1 < 5
     ·rw [if_pos c6] at H
      have c6b0 : decide (x10_1 < 5) = true := decide_eq_true c6
      clear c6
      have H' := Aside0.mk H
      clear H
      go_wp2
      repeat (go_quiet (fail); try go_wp2)
      go_roundg k1
      case measure => have := HK1.out; omega
      case rel => exact ⟨(wrap64 (2 * x9_1)), (wrap64 (x10_1 + 1)), vq_, vq_, H', ⟨by have := HK1.out; omega⟩, ⟨bl_⟩⟩
     rw [if_neg c6] at H
     have c6b0 : decide (x10_1 < 5) = false := decide_eq_false c6
     clear c6
     have H' := Aside0.mk H
     clear H
     go_wp2
     repeat (go_quiet (fail); try go_wp2)
     go_meet
     case rel => exact ⟨_, (x9_1), vq_, H', ⟨by have := HK1.out; first | omega | exact Nat.le_refl _⟩, ⟨bl_⟩⟩
    rw [if_neg c5] at H
    have c5b0 : decide (x10_1 < (l2.length : Int)) = false := decide_eq_false c5
    clear c5
    (first | rw [c5b0] | (simp only [i64_w, i32_w]; rw [c5b0]) | skip)
    have H' := Aside0.mk H
    clear H
    go_wp2
    repeat (go_quiet (fail); try go_wp2)
    go_meet
    case rel => exact ⟨_, (x9_1), vq_, H', ⟨by have := HK1.out; first | omega | exact Nat.le_refl _⟩, ⟨bl_⟩⟩
 case rest =>
  clear HC4
  obtain ⟨kq, x9_3, rfl, HA, HJ3, HB⟩ := hcut
  cases kq with
  | zero => exact absurd HA.out (by simp [Jg.j1])
  | succ kj3 =>
   have H := HA.out
   clear HA
   simp only [Jg.j1] at H
   have HC7 := Aside0.mk H
   clear H
   go_upto_region 6 with (fail)
   repeat (go_quiet (fail); go_upto_region 6 with (fail))
   go_cut [38] (fun v38 wc => ∃ (kq : Nat) (x38_6 : Bool), v38 = .bool x38_6 ∧ Aside0 (Jg.j2 kq a0 a1 l2 x38_6 = some (r1, r2, r3)) ∧ Aside0 (kq ≤ kj3) ∧ Aside0 (Below w.heap.size w wc))
   case first =>
    have H := HC7.out
    clear HC7
    by_cases c8 : (l2.length : Int) > 4
    ·rw [if_pos c8] at H
     have c8b0 : decide (4 < (l2.length : Int)) = true := decide_eq_true c8
     have c8b1 : decide (4 < l2.length) = true := decide_eq_true (by omega)
     clear c8
     (first | rw [c8b0] | (simp only [i64_w, i32_w]; rw [c8b0]) | skip)
     have H' := Aside0.mk H
     clear H
     go_wp2
     repeat (go_quiet (fail); try go_wp2)
     go_meet
     case rel => exact ⟨_, (true), vq_, H', ⟨by have := HJ3.out; first | omega | exact Nat.le_refl _⟩, ⟨bl_⟩⟩
    rw [if_neg c8] at H
    have c8b0 : decide (4 < (l2.length : Int)) = false := decide_eq_false c8
    have c8b1 : decide (4 < l2.length) = false := decide_eq_false (by omega)
    clear c8
    (first | rw [c8b0] | (simp only [i64_w, i32_w]; rw [c8b0]) | skip)
    by_cases c9 : a1 < 0
    ·rw [if_pos c9] at H
     have c9b0 : decide (a1 < 0) = true := decide_eq_true c9
     clear c9
     have H' := Aside0.mk H
     clear H
     go_wp2
     repeat (go_quiet (fail); try go_wp2)
     go_meet
     case rel => exact ⟨_, (true), vq_, H', ⟨by have := HJ3.out; first | omega | exact Nat.le_refl _⟩, ⟨bl_⟩⟩
    rw [if_neg c9] at H
    have c9b0 : decide (a1 < 0) = false := decide_eq_false c9
    clear c9
    have H' := Aside0.mk H
    clear H
    go_wp2
    repeat (go_quiet (fail); try go_wp2)
    go_meet
    case rel => exact ⟨_, (decide (a1 ≥ x9_3)), vq_, H', ⟨by have := HJ3.out; first | omega | exact Nat.le_refl _⟩, ⟨bl_⟩⟩
   case rest =>
    clear HC7
    obtain ⟨kq, x38_6, rfl, HA, HJ6, HB⟩ := hcut
    cases kq with
    | zero => exact absurd HA.out (by simp [Jg.j2])
    | succ kj6 =>
     have H := HA.out
     clear HA
     simp only [Jg.j2] at H
     by_cases c10 : x38_6 = true
     ·subst c10
      have H1 : (some ((⟨#[]⟩ : ByteArray), ([] : List ByteArray), false)) = some (r1, r2, r3) := by rw [if_pos rfl] at H; exact H
      clear H
      have H := H1
      clear H1
      simp only [Option.some.injEq, Prod.mk.injEq] at H
      obtain ⟨rfl, rfl, rfl⟩ := H
      go_wp2
      repeat (go_quiet (fail); try go_wp2)
      go_ret3
      exact ⟨_, er_, by first | exact Kd.R_nil _ _ _ _ _ | exact Kd.N_nil _ _ _ _ _ | exact Kd.V_nil _ _ _ _ _ | exact Kd.Q_nil _ _ _ _ _ | exact Kd.S_nil _ _ _ _ _, bl_⟩
     replace c10 := Bool.eq_false_iff.mpr c10
     subst c10
     have H1 : (Jg.l1 kj6 a0 a1 l2 ([] : List ByteArray) 0) = some (r1, r2, r3) := by rw [if_neg (show ¬ (false = true) by decide)] at H; exact H
     clear H
     have H := H1
     clear H1
     have H' := Aside0.mk H
     clear H
     go_wp2
     repeat (go_quiet (fail); try go_wp2)
     go_loopg [0, 1, 11, 12] kj6 (fun kq v0 v1 v11 v12 w' => ∃ (x0_3 : ByteArray) (x1_3 : Int) (x11_3 : List ByteArray) (x12_3 : Int), v0 = .string x0_3 ∧ v1 = .int .i64 x1_3 ∧ v12 = .int .i64 x12_3 ∧ Aside0 (Jg.l1 kq x0_3 x1_3 l2 x11_3 x12_3 = some (r1, r2, r3)) ∧ Aside0 (kq ≤ kj6) ∧ Aside0 (Kd.R Kd.string 9 w' w.heap.size (fun _ => True) v11 x11_3) ∧ Aside0 (Below w.heap.size w w'))
     case atStart => exact ⟨(a0), (a1), (([] : List ByteArray)), (0), vq_, vq_, vq_, H', ⟨Nat.le_refl _⟩, ⟨by first | exact Kd.R_nil _ _ _ _ _ | exact Kd.N_nil _ _ _ _ _ | exact Kd.V_nil _ _ _ _ _ | exact Kd.Q_nil _ _ _ _ _ | exact Kd.S_nil _ _ _ _ _⟩, ⟨bl_⟩⟩
     case round =>
      clear H'
      obtain ⟨x0_3, x1_3, x11_3, x12_3, rfl, rfl, rfl, HA, HK3, HO_11, HB⟩ := hrel
      cases gk with
      | zero => exact absurd HA.out (by simp [Jg.l1])
      | succ k3 =>
       have H := HA.out
       clear HA
       simp only [Jg.l1] at H
       by_cases c11 : x12_3 < (l2.length : Int)
       ·rw [if_pos c11] at H
        have c11b0 : decide (x12_3 < (l2.length : Int)) = true := decide_eq_true c11
        clear c11
        revert H; refine nd_ fun c12 c12b0 H => ?_
        clear c12
        by_cases c13 : (Int.tmod x1_3 2) = 1
        ·rw [if_pos c13] at H
         have c13b0 : ((Int.tmod x1_3 2) == 1) = true := beq_iff_eq.mpr c13
         have c13b1 : ((Int.tmod x1_3 2) != 1) = false := bne_eq_false_iff_eq.mpr c13
         clear c13
         obtain ⟨y452, hy452⟩ : ∃ y_ : List ByteArray, y_ = (([rdOf ByteArray.empty l2 x12_3, x0_3] : List ByteArray)) := ⟨_, rfl⟩
         replace H : ((Jh.f k3 4 y452).bind fun t455 => (if x11_3.length < 8796093022208 then ((Jq.f k3 4 (([rdOf ByteArray.empty l2 x12_3, x0_3] : List ByteArray))).bind fun t462 => (Jg.l1 k3 t462 (wrap64 (Int.tdiv x1_3 2)) l2 (x11_3 ++ [t455]) (wrap64 (x12_3 + 1)))) else (none))) = some (r1, r2, r3) := by first | (rw [hy452]; with_reducible exact H) | (have H2_ := (Option.bind_some _ _).symm.trans H; rw [hy452]; with_reducible exact H2_) | (have H2_ := (Option.bind_some _ _).symm.trans H; with_reducible exact H2_) | with_reducible exact H | (rw [hy452]; exact H) | exact H
         have Ny452 := Aside0.mk hy452
         clear hy452
         revert H; refine oa_ fun t455 A14 => nc_ fun c15 H => ?_
         have LMc15 := Aside0.mk c15
         clear c15
         generalize e_ : (x11_3 ++ [t455] : List ByteArray) = y456 at H
         have Ny456 := Aside0.mk e_.symm
         clear e_
         generalize e_ : (([rdOf ByteArray.empty l2 x12_3, x0_3] : List ByteArray) : List ByteArray) = y459 at H
         have Ny459 := Aside0.mk e_.symm
         clear e_
         revert H; refine oa_ fun t462 A16 H => ?_
         have H' := Aside0.mk H
         clear H
         have p450 : 0 ≤ (x12_3 : Int) := ae_
         have q450 : x12_3 < (l2.length : Int) := ae_
         obtain ⟨ad450, e450, hx450_0⟩ := Kd.at_string HR2.out x12_3 p450 q450
         cases e450
         replace hx450_0 := (HB.out.cell (World.block_lt_of_cell? w _ hx450_0)).trans hx450_0
         replace p450 := eq_true p450
         replace q450 := eq_true q450
         have p451 : 0 ≤ (x12_3 : Int) := ae_
         have q451 : x12_3 < (l2.length : Int) := ae_
         obtain ⟨ad451, e451, hx451_0⟩ := Kd.at_string HR2.out x12_3 p451 q451
         obtain rfl : ad450 = ad451 := (by injection e451)
         replace hx451_0 := (HB.out.cell (World.block_lt_of_cell? w _ hx451_0)).trans hx451_0
         replace p451 := eq_true p451
         replace q451 := eq_true q451
         go_wp2_with (first | ((with_reducible refine gate_dst (N := 61) rfl ?_); refine Kd.R_lit Kd.string _ 9 ?hg (N := 61) ?hd (xs := ([rdOf ByteArray.empty l2 x12_3, x0_3] : List ByteArray)) (inner := [.string (rdOf ByteArray.empty l2 x12_3), .string x0_3]) (ok := fun _ => True) (okp := fun _ => True) ?hr ?hp (fun _ hk => hk) trivial (Below.refl _ _) (Nat.le_refl _) (by simp) ?_; (case hd => rfl); (case hg => rfl); (case hr => exact gr_); (case hp => exact (Reps.one (show Kd.M Kd.string _ _ _ (rdOf ByteArray.empty l2 x12_3) [.string (rdOf ByteArray.empty l2 x12_3)] from rfl) (Reps.one (show Kd.M Kd.string _ _ _ x0_3 [.string x0_3] from rfl) (Reps.none _ _)))); intro v453 w17 ho18 hb hg_ hnew_; clear hg_ hnew_; (first | rw [← Ny452.out] at ho18 | (simp only [Int.reduceToNat] at ho18; rw [← Ny452.out] at ho18)); have HO454 := Aside0.mk (Kd.R_lower (Kd.R_new' ho18 (Kd.R_lt (mv_ HO_11.out))) (below_size bl_)); replace HB := Aside0.mk (below_step bl_ hb); replace HO_11 := Aside0.mk (Kd.R_elder' (mv_ HO_11.out) (Kd.R_base ho18) hb); clear hb ho18; obtain ⟨Ao19, co19, eo19⟩ := Kd.R_slice HO454.out; subst eo19) | (go_at_call 34; (with_reducible refine (Jh.calls k3 4 _ _ y452 t455 _ ?side1 ?side2 A14.out).mono ?_); (case side1 => repeat (first | exact (Kd.R_reads' HO454.out).2.2 | (with_reducible refine Kd.C_alloc ?_ _) | (with_reducible refine Kd.C_drewN ?_ _) | (with_reducible refine Kd.C_drew ?_))); (case side2 => exact (Kd.R_reads' HO454.out).2.1); rintro e w20 ⟨rfl, hb⟩; replace HB := Aside0.mk (below_step bl_ hb); replace HO454 := Aside0.mk (Kd.R_below (mv_ HO454.out) hb); replace HO_11 := Aside0.mk (Kd.R_below (mv_ HO_11.out) hb); (try clear hb); (try clear hb2); (try clear hk); (try clear hi)) | ((with_reducible refine gate_builtin (b := .append) (xs := #[.tmp 58, .tmp 63]) rfl ?_); at_builtin; refine Kd.R_append Kd.string (w0 := w) w.heap.size rfl (.tmp 58) (.tmp 63) 22 9 (.string ⟨#[]⟩) 16 rfl Tryz.underlying22 info9 rfl (by decide) (by omega) u11 x11_3 t455 [.string t455] (fun k_ => some k_ ≠ (.slice Ao19 y452.length co19 : Value).ownBlock) (fun _ => False) rfl rfl ?aP (fun _ hk => hk.elim) ?aF ?aO ?aB ?aS ?aL ?_; (case aP => exact rfl); (case aB => exact bl_); (case aF => exact (fun k_ hk => Kd.fresh' (Kd.R_lt (mv_ HO454.out)) k_ hk)); (case aO => exact (by refine mv_ ?_; exact Kd.R_mono HO_11.out (fun _ hk => hk.2))); (case aS => exact (below_size bl_)); (case aL => have := LMc15.out; omega); intro v457 w21 ho hb hg hat; rw [← Ny456.out] at ho; have HO458 := Aside0.mk (ho); replace HB := Aside0.mk (hb); replace HO454 := Aside0.mk (Kd.R_after (ok := (fun _ => True)) (mv_ HO454.out) hg hat); clear HO_11; clear ho hb hg hat) | ((with_reducible refine gate_dst (N := 67) rfl ?_); refine Kd.R_lit Kd.string _ 9 ?hg (N := 67) ?hd (xs := ([rdOf ByteArray.empty l2 x12_3, x0_3] : List ByteArray)) (inner := [.string (rdOf ByteArray.empty l2 x12_3), .string x0_3]) (ok := fun _ => True) (okp := fun _ => True) ?hr ?hp (fun _ hk => hk) trivial (Below.refl _ _) (Nat.le_refl _) (by simp) ?_; (case hd => rfl); (case hg => rfl); (case hr => exact gr_); (case hp => exact (Reps.one (show Kd.M Kd.string _ _ _ (rdOf ByteArray.empty l2 x12_3) [.string (rdOf ByteArray.empty l2 x12_3)] from rfl) (Reps.one (show Kd.M Kd.string _ _ _ x0_3 [.string x0_3] from rfl) (Reps.none _ _)))); intro v460 w22 ho23 hb hg_ hnew_; clear hg_ hnew_; (first | rw [← Ny459.out] at ho23 | (simp only [Int.reduceToNat] at ho23; rw [← Ny459.out] at ho23)); have HO461 := Aside0.mk (Kd.R_lower (Kd.R_new' (Kd.R_new' ho23 (Kd.R_lt (mv_ HO454.out))) (Kd.R_lt (mv_ HO458.out))) (below_size bl_)); replace HB := Aside0.mk (below_step bl_ hb); replace HO458 := Aside0.mk (Kd.R_elder' (mv_ HO458.out) (Kd.R_base ho23) hb); replace HO454 := Aside0.mk (Kd.R_elder' (mv_ HO454.out) (Kd.R_base ho23) hb); clear hb ho23; obtain ⟨Ao24, co24, eo24⟩ := Kd.R_slice HO461.out; subst eo24) | (go_at_call 31; (with_reducible refine (Jq.calls k3 4 _ _ y459 t462 _ ?side1 ?side2 A16.out).mono ?_); (case side1 => repeat (first | exact (Kd.R_reads' HO461.out).2.2 | (with_reducible refine Kd.C_alloc ?_ _) | (with_reducible refine Kd.C_drewN ?_ _) | (with_reducible refine Kd.C_drew ?_))); (case side2 => exact (Kd.R_reads' HO461.out).2.1); rintro e w25 ⟨rfl, hb⟩; replace HB := Aside0.mk (below_step bl_ hb); replace HO461 := Aside0.mk (Kd.R_below (mv_ HO461.out) hb); replace HO458 := Aside0.mk (Kd.R_below (mv_ HO458.out) hb); replace HO454 := Aside0.mk (Kd.R_below (mv_ HO454.out) hb); (try clear hb); (try clear hb2); (try clear hk); (try clear hi)))
         repeat (go_quiet (first | ((with_reducible refine gate_dst (N := 61) rfl ?_); refine Kd.R_lit Kd.string _ 9 ?hg (N := 61) ?hd (xs := ([rdOf ByteArray.empty l2 x12_3, x0_3] : List ByteArray)) (inner := [.string (rdOf ByteArray.empty l2 x12_3), .string x0_3]) (ok := fun _ => True) (okp := fun _ => True) ?hr ?hp (fun _ hk => hk) trivial (Below.refl _ _) (Nat.le_refl _) (by simp) ?_; (case hd => rfl); (case hg => rfl); (case hr => exact gr_); (case hp => exact (Reps.one (show Kd.M Kd.string _ _ _ (rdOf ByteArray.empty l2 x12_3) [.string (rdOf ByteArray.empty l2 x12_3)] from rfl) (Reps.one (show Kd.M Kd.string _ _ _ x0_3 [.string x0_3] from rfl) (Reps.none _ _)))); intro v453 w17 ho18 hb hg_ hnew_; clear hg_ hnew_; (first | rw [← Ny452.out] at ho18 | (simp only [Int.reduceToNat] at ho18; rw [← Ny452.out] at ho18)); have HO454 := Aside0.mk (Kd.R_lower (Kd.R_new' ho18 (Kd.R_lt (mv_ HO_11.out))) (below_size bl_)); replace HB := Aside0.mk (below_step bl_ hb); replace HO_11 := Aside0.mk (Kd.R_elder' (mv_ HO_11.out) (Kd.R_base ho18) hb); clear hb ho18; obtain ⟨Ao19, co19, eo19⟩ := Kd.R_slice HO454.out; subst eo19) | (go_at_call 34; (with_reducible refine (Jh.calls k3 4 _ _ y452 t455 _ ?side1 ?side2 A14.out).mono ?_); (case side1 => repeat (first | exact (Kd.R_reads' HO454.out).2.2 | (with_reducible refine Kd.C_alloc ?_ _) | (with_reducible refine Kd.C_drewN ?_ _) | (with_reducible refine Kd.C_drew ?_))); (case side2 => exact (Kd.R_reads' HO454.out).2.1); rintro e w20 ⟨rfl, hb⟩; replace HB := Aside0.mk (below_step bl_ hb); replace HO454 := Aside0.mk (Kd.R_below (mv_ HO454.out) hb); replace HO_11 := Aside0.mk (Kd.R_below (mv_ HO_11.out) hb); (try clear hb); (try clear hb2); (try clear hk); (try clear hi)) | ((with_reducible refine gate_builtin (b := .append) (xs := #[.tmp 58, .tmp 63]) rfl ?_); at_builtin; refine Kd.R_append Kd.string (w0 := w) w.heap.size rfl (.tmp 58) (.tmp 63) 22 9 (.string ⟨#[]⟩) 16 rfl Tryz.underlying22 info9 rfl (by decide) (by omega) u11 x11_3 t455 [.string t455] (fun k_ => some k_ ≠ (.slice Ao19 y452.length co19 : Value).ownBlock) (fun _ => False) rfl rfl ?aP (fun _ hk => hk.elim) ?aF ?aO ?aB ?aS ?aL ?_; (case aP => exact rfl); (case aB => exact bl_); (case aF => exact (fun k_ hk => Kd.fresh' (Kd.R_lt (mv_ HO454.out)) k_ hk)); (case aO => exact (by refine mv_ ?_; exact Kd.R_mono HO_11.out (fun _ hk => hk.2))); (case aS => exact (below_size bl_)); (case aL => have := LMc15.out; omega); intro v457 w21 ho hb hg hat; rw [← Ny456.out] at ho; have HO458 := Aside0.mk (ho); replace HB := Aside0.mk (hb); replace HO454 := Aside0.mk (Kd.R_after (ok := (fun _ => True)) (mv_ HO454.out) hg hat); clear HO_11; clear ho hb hg hat) | ((with_reducible refine gate_dst (N := 67) rfl ?_); refine Kd.R_lit Kd.string _ 9 ?hg (N := 67) ?hd (xs := ([rdOf ByteArray.empty l2 x12_3, x0_3] : List ByteArray)) (inner := [.string (rdOf ByteArray.empty l2 x12_3), .string x0_3]) (ok := fun _ => True) (okp := fun _ => True) ?hr ?hp (fun _ hk => hk) trivial (Below.refl _ _) (Nat.le_refl _) (by simp) ?_; (case hd => rfl); (case hg => rfl); (case hr => exact gr_); (case hp => exact (Reps.one (show Kd.M Kd.string _ _ _ (rdOf ByteArray.empty l2 x12_3) [.string (rdOf ByteArray.empty l2 x12_3)] from rfl) (Reps.one (show Kd.M Kd.string _ _ _ x0_3 [.string x0_3] from rfl) (Reps.none _ _)))); intro v460 w22 ho23 hb hg_ hnew_; clear hg_ hnew_; (first | rw [← Ny459.out] at ho23 | (simp only [Int.reduceToNat] at ho23; rw [← Ny459.out] at ho23)); have HO461 := Aside0.mk (Kd.R_lower (Kd.R_new' (Kd.R_new' ho23 (Kd.R_lt (mv_ HO454.out))) (Kd.R_lt (mv_ HO458.out))) (below_size bl_)); replace HB := Aside0.mk (below_step bl_ hb); replace HO458 := Aside0.mk (Kd.R_elder' (mv_ HO458.out) (Kd.R_base ho23) hb); replace HO454 := Aside0.mk (Kd.R_elder' (mv_ HO454.out) (Kd.R_base ho23) hb); clear hb ho23; obtain ⟨Ao24, co24, eo24⟩ := Kd.R_slice HO461.out; subst eo24) | (go_at_call 31; (with_reducible refine (Jq.calls k3 4 _ _ y459 t462 _ ?side1 ?side2 A16.out).mono ?_); (case side1 => repeat (first | exact (Kd.R_reads' HO461.out).2.2 | (with_reducible refine Kd.C_alloc ?_ _) | (with_reducible refine Kd.C_drewN ?_ _) | (with_reducible refine Kd.C_drew ?_))); (case side2 => exact (Kd.R_reads' HO461.out).2.1); rintro e w25 ⟨rfl, hb⟩; replace HB := Aside0.mk (below_step bl_ hb); replace HO461 := Aside0.mk (Kd.R_below (mv_ HO461.out) hb); replace HO458 := Aside0.mk (Kd.R_below (mv_ HO458.out) hb); replace HO454 := Aside0.mk (Kd.R_below (mv_ HO454.out) hb); (try clear hb); (try clear hb2); (try clear hk); (try clear hi))); try go_wp2_with (first | ((with_reducible refine gate_dst (N := 61) rfl ?_); refine Kd.R_lit Kd.string _ 9 ?hg (N := 61) ?hd (xs := ([rdOf ByteArray.empty l2 x12_3, x0_3] : List ByteArray)) (inner := [.string (rdOf ByteArray.empty l2 x12_3), .string x0_3]) (ok := fun _ => True) (okp := fun _ => True) ?hr ?hp (fun _ hk => hk) trivial (Below.refl _ _) (Nat.le_refl _) (by simp) ?_; (case hd => rfl); (case hg => rfl); (case hr => exact gr_); (case hp => exact (Reps.one (show Kd.M Kd.string _ _ _ (rdOf ByteArray.empty l2 x12_3) [.string (rdOf ByteArray.empty l2 x12_3)] from rfl) (Reps.one (show Kd.M Kd.string _ _ _ x0_3 [.string x0_3] from rfl) (Reps.none _ _)))); intro v453 w17 ho18 hb hg_ hnew_; clear hg_ hnew_; (first | rw [← Ny452.out] at ho18 | (simp only [Int.reduceToNat] at ho18; rw [← Ny452.out] at ho18)); have HO454 := Aside0.mk (Kd.R_lower (Kd.R_new' ho18 (Kd.R_lt (mv_ HO_11.out))) (below_size bl_)); replace HB := Aside0.mk (below_step bl_ hb); replace HO_11 := Aside0.mk (Kd.R_elder' (mv_ HO_11.out) (Kd.R_base ho18) hb); clear hb ho18; obtain ⟨Ao19, co19, eo19⟩ := Kd.R_slice HO454.out; subst eo19) | (go_at_call 34; (with_reducible refine (Jh.calls k3 4 _ _ y452 t455 _ ?side1 ?side2 A14.out).mono ?_); (case side1 => repeat (first | exact (Kd.R_reads' HO454.out).2.2 | (with_reducible refine Kd.C_alloc ?_ _) | (with_reducible refine Kd.C_drewN ?_ _) | (with_reducible refine Kd.C_drew ?_))); (case side2 => exact (Kd.R_reads' HO454.out).2.1); rintro e w20 ⟨rfl, hb⟩; replace HB := Aside0.mk (below_step bl_ hb); replace HO454 := Aside0.mk (Kd.R_below (mv_ HO454.out) hb); replace HO_11 := Aside0.mk (Kd.R_below (mv_ HO_11.out) hb); clear hb) | ((with_reducible refine gate_builtin (b := .append) (xs := #[.tmp 58, .tmp 63]) rfl ?_); at_builtin; refine Kd.R_append Kd.string (w0 := w) w.heap.size rfl (.tmp 58) (.tmp 63) 22 9 (.string ⟨#[]⟩) 16 rfl Tryz.underlying22 info9 rfl (by decide) (by omega) u11 x11_3 t455 [.string t455] (fun k_ => some k_ ≠ (.slice Ao19 y452.length co19 : Value).ownBlock) (fun _ => False) rfl rfl ?aP (fun _ hk => hk.elim) ?aF ?aO ?aB ?aS ?aL ?_; (case aP => exact rfl); (case aB => exact bl_); (case aF => exact (fun k_ hk => Kd.fresh' (Kd.R_lt (mv_ HO454.out)) k_ hk)); (case aO => exact (by refine mv_ ?_; exact Kd.R_mono HO_11.out (fun _ hk => hk.2))); (case aS => exact (below_size bl_)); (case aL => have := LMc15.out; omega); intro v457 w21 ho hb hg hat; rw [← Ny456.out] at ho; have HO458 := Aside0.mk (ho); replace HB := Aside0.mk (hb); replace HO454 := Aside0.mk (Kd.R_after (ok := (fun _ => True)) (mv_ HO454.out) hg hat); clear HO_11; clear ho hb hg hat) | ((with_reducible refine gate_dst (N := 67) rfl ?_); refine Kd.R_lit Kd.string _ 9 ?hg (N := 67) ?hd (xs := ([rdOf ByteArray.empty l2 x12_3, x0_3] : List ByteArray)) (inner := [.string (rdOf ByteArray.empty l2 x12_3), .string x0_3]) (ok := fun _ => True) (okp := fun _ => True) ?hr ?hp (fun _ hk => hk) trivial (Below.refl _ _) (Nat.le_refl _) (by simp) ?_; (case hd => rfl); (case hg => rfl); (case hr => exact gr_); (case hp => exact (Reps.one (show Kd.M Kd.string _ _ _ (rdOf ByteArray.empty l2 x12_3) [.string (rdOf ByteArray.empty l2 x12_3)] from rfl) (Reps.one (show Kd.M Kd.string _ _ _ x0_3 [.string x0_3] from rfl) (Reps.none _ _)))); intro v460 w22 ho23 hb hg_ hnew_; clear hg_ hnew_; (first | rw [← Ny459.out] at ho23 | (simp only [Int.reduceToNat] at ho23; rw [← Ny459.out] at ho23)); have HO461 := Aside0.mk (Kd.R_lower (Kd.R_new' (Kd.R_new' ho23 (Kd.R_lt (mv_ HO454.out))) (Kd.R_lt (mv_ HO458.out))) (below_size bl_)); replace HB := Aside0.mk (below_step bl_ hb); replace HO458 := Aside0.mk (Kd.R_elder' (mv_ HO458.out) (Kd.R_base ho23) hb); replace HO454 := Aside0.mk (Kd.R_elder' (mv_ HO454.out) (Kd.R_base ho23) hb); clear hb ho23; obtain ⟨Ao24, co24, eo24⟩ := Kd.R_slice HO461.out; subst eo24) | (go_at_call 31; (with_reducible refine (Jq.calls k3 4 _ _ y459 t462 _ ?side1 ?side2 A16.out).mono ?_); (case side1 => repeat (first | exact (Kd.R_reads' HO461.out).2.2 | (with_reducible refine Kd.C_alloc ?_ _) | (with_reducible refine Kd.C_drewN ?_ _) | (with_reducible refine Kd.C_drew ?_))); (case side2 => exact (Kd.R_reads' HO461.out).2.1); rintro e w25 ⟨rfl, hb⟩; replace HB := Aside0.mk (below_step bl_ hb); replace HO461 := Aside0.mk (Kd.R_below (mv_ HO461.out) hb); replace HO458 := Aside0.mk (Kd.R_below (mv_ HO458.out) hb); replace HO454 := Aside0.mk (Kd.R_below (mv_ HO454.out) hb); clear hb)))
         go_roundg k3
         case measure => have := HJ3.out; have := HJ6.out; have := HK3.out; omega
         case rel => exact ⟨(t462), (wrap64 (Int.tdiv x1_3 2)), (y456), (wrap64 (x12_3 + 1)), vq_, vq_, vq_, H', ⟨by have := HJ3.out; have := HJ6.out; have := HK3.out; omega⟩, ⟨by refine mv_ ?_; exact Kd.R_mono HO458.out (fun _ hk => trivial)⟩, ⟨bl_⟩⟩
        rw [if_neg c13] at H
        have c13b0 : ((Int.tmod x1_3 2) == 1) = false := beq_eq_false_iff_ne.mpr c13
        have c13b1 : ((Int.tmod x1_3 2) != 1) = true := bne_iff_ne.mpr c13
        obtain ⟨y463, hy463⟩ : ∃ y_ : List ByteArray, y_ = (([x0_3, rdOf ByteArray.empty l2 x12_3] : List ByteArray)) := ⟨_, rfl⟩
        replace H : ((Jh.f k3 4 y463).bind fun t466 => (if x11_3.length < 8796093022208 then ((Jq.f k3 4 (([x0_3, rdOf ByteArray.empty l2 x12_3] : List ByteArray))).bind fun t473 => (Jg.l1 k3 t473 (wrap64 (Int.tdiv x1_3 2)) l2 (x11_3 ++ [t466]) (wrap64 (x12_3 + 1)))) else (none))) = some (r1, r2, r3) := by first | (rw [hy463]; with_reducible exact H) | (have H2_ := (Option.bind_some _ _).symm.trans H; rw [hy463]; with_reducible exact H2_) | (have H2_ := (Option.bind_some _ _).symm.trans H; with_reducible exact H2_) | with_reducible exact H | (rw [hy463]; exact H) | exact H
        have Ny463 := Aside0.mk hy463
        clear hy463
        revert H; refine oa_ fun t466 A26 => nc_ fun c27 H => ?_
        have LMc27 := Aside0.mk c27
        clear c27
        generalize e_ : (x11_3 ++ [t466] : List ByteArray) = y467 at H
        have Ny467 := Aside0.mk e_.symm
        clear e_
        generalize e_ : (([x0_3, rdOf ByteArray.empty l2 x12_3] : List ByteArray) : List ByteArray) = y470 at H
        have Ny470 := Aside0.mk e_.symm
        clear e_
        revert H; refine oa_ fun t473 A28 H => ?_
        have H' := Aside0.mk H
        clear H
        have p450 : 0 ≤ (x12_3 : Int) := ae_
        have q450 : x12_3 < (l2.length : Int) := ae_
        obtain ⟨ad450, e450, hx450_0⟩ := Kd.at_string HR2.out x12_3 p450 q450
        cases e450
        replace hx450_0 := (HB.out.cell (World.block_lt_of_cell? w _ hx450_0)).trans hx450_0
        replace p450 := eq_true p450
        replace q450 := eq_true q450
        go_wp2_with (first | ((with_reducible refine gate_dst (N := 61) rfl ?_); refine Kd.R_lit Kd.string _ 9 ?hg (N := 61) ?hd (xs := ([x0_3, rdOf ByteArray.empty l2 x12_3] : List ByteArray)) (inner := [.string x0_3, .string (rdOf ByteArray.empty l2 x12_3)]) (ok := fun _ => True) (okp := fun _ => True) ?hr ?hp (fun _ hk => hk) trivial (Below.refl _ _) (Nat.le_refl _) (by simp) ?_; (case hd => rfl); (case hg => rfl); (case hr => exact gr_); (case hp => exact (Reps.one (show Kd.M Kd.string _ _ _ x0_3 [.string x0_3] from rfl) (Reps.one (show Kd.M Kd.string _ _ _ (rdOf ByteArray.empty l2 x12_3) [.string (rdOf ByteArray.empty l2 x12_3)] from rfl) (Reps.none _ _)))); intro v464 w29 ho30 hb hg_ hnew_; clear hg_ hnew_; (first | rw [← Ny463.out] at ho30 | (simp only [Int.reduceToNat] at ho30; rw [← Ny463.out] at ho30)); have HO465 := Aside0.mk (Kd.R_lower (Kd.R_new' ho30 (Kd.R_lt (mv_ HO_11.out))) (below_size bl_)); replace HB := Aside0.mk (below_step bl_ hb); replace HO_11 := Aside0.mk (Kd.R_elder' (mv_ HO_11.out) (Kd.R_base ho30) hb); clear hb ho30; obtain ⟨Ao31, co31, eo31⟩ := Kd.R_slice HO465.out; subst eo31) | (go_at_call 34; (with_reducible refine (Jh.calls k3 4 _ _ y463 t466 _ ?side1 ?side2 A26.out).mono ?_); (case side1 => repeat (first | exact (Kd.R_reads' HO465.out).2.2 | (with_reducible refine Kd.C_alloc ?_ _) | (with_reducible refine Kd.C_drewN ?_ _) | (with_reducible refine Kd.C_drew ?_))); (case side2 => exact (Kd.R_reads' HO465.out).2.1); rintro e w32 ⟨rfl, hb⟩; replace HB := Aside0.mk (below_step bl_ hb); replace HO465 := Aside0.mk (Kd.R_below (mv_ HO465.out) hb); replace HO_11 := Aside0.mk (Kd.R_below (mv_ HO_11.out) hb); (try clear hb); (try clear hb2); (try clear hk); (try clear hi)) | ((with_reducible refine gate_builtin (b := .append) (xs := #[.tmp 58, .tmp 63]) rfl ?_); at_builtin; refine Kd.R_append Kd.string (w0 := w) w.heap.size rfl (.tmp 58) (.tmp 63) 22 9 (.string ⟨#[]⟩) 16 rfl Tryz.underlying22 info9 rfl (by decide) (by omega) u11 x11_3 t466 [.string t466] (fun k_ => some k_ ≠ (.slice Ao31 y463.length co31 : Value).ownBlock) (fun _ => False) rfl rfl ?aP (fun _ hk => hk.elim) ?aF ?aO ?aB ?aS ?aL ?_; (case aP => exact rfl); (case aB => exact bl_); (case aF => exact (fun k_ hk => Kd.fresh' (Kd.R_lt (mv_ HO465.out)) k_ hk)); (case aO => exact (by refine mv_ ?_; exact Kd.R_mono HO_11.out (fun _ hk => hk.2))); (case aS => exact (below_size bl_)); (case aL => have := LMc27.out; omega); intro v468 w33 ho hb hg hat; rw [← Ny467.out] at ho; have HO469 := Aside0.mk (ho); replace HB := Aside0.mk (hb); replace HO465 := Aside0.mk (Kd.R_after (ok := (fun _ => True)) (mv_ HO465.out) hg hat); clear HO_11; clear ho hb hg hat) | ((with_reducible refine gate_dst (N := 67) rfl ?_); refine Kd.R_lit Kd.string _ 9 ?hg (N := 67) ?hd (xs := ([x0_3, rdOf ByteArray.empty l2 x12_3] : List ByteArray)) (inner := [.string x0_3, .string (rdOf ByteArray.empty l2 x12_3)]) (ok := fun _ => True) (okp := fun _ => True) ?hr ?hp (fun _ hk => hk) trivial (Below.refl _ _) (Nat.le_refl _) (by simp) ?_; (case hd => rfl); (case hg => rfl); (case hr => exact gr_); (case hp => exact (Reps.one (show Kd.M Kd.string _ _ _ x0_3 [.string x0_3] from rfl) (Reps.one (show Kd.M Kd.string _ _ _ (rdOf ByteArray.empty l2 x12_3) [.string (rdOf ByteArray.empty l2 x12_3)] from rfl) (Reps.none _ _)))); intro v471 w34 ho35 hb hg_ hnew_; clear hg_ hnew_; (first | rw [← Ny470.out] at ho35 | (simp only [Int.reduceToNat] at ho35; rw [← Ny470.out] at ho35)); have HO472 := Aside0.mk (Kd.R_lower (Kd.R_new' (Kd.R_new' ho35 (Kd.R_lt (mv_ HO465.out))) (Kd.R_lt (mv_ HO469.out))) (below_size bl_)); replace HB := Aside0.mk (below_step bl_ hb); replace HO469 := Aside0.mk (Kd.R_elder' (mv_ HO469.out) (Kd.R_base ho35) hb); replace HO465 := Aside0.mk (Kd.R_elder' (mv_ HO465.out) (Kd.R_base ho35) hb); clear hb ho35; obtain ⟨Ao36, co36, eo36⟩ := Kd.R_slice HO472.out; subst eo36) | (go_at_call 31; (with_reducible refine (Jq.calls k3 4 _ _ y470 t473 _ ?side1 ?side2 A28.out).mono ?_); (case side1 => repeat (first | exact (Kd.R_reads' HO472.out).2.2 | (with_reducible refine Kd.C_alloc ?_ _) | (with_reducible refine Kd.C_drewN ?_ _) | (with_reducible refine Kd.C_drew ?_))); (case side2 => exact (Kd.R_reads' HO472.out).2.1); rintro e w37 ⟨rfl, hb⟩; replace HB := Aside0.mk (below_step bl_ hb); replace HO472 := Aside0.mk (Kd.R_below (mv_ HO472.out) hb); replace HO469 := Aside0.mk (Kd.R_below (mv_ HO469.out) hb); replace HO465 := Aside0.mk (Kd.R_below (mv_ HO465.out) hb); (try clear hb); (try clear hb2); (try clear hk); (try clear hi)))
        repeat (go_quiet (first | ((with_reducible refine gate_dst (N := 61) rfl ?_); refine Kd.R_lit Kd.string _ 9 ?hg (N := 61) ?hd (xs := ([x0_3, rdOf ByteArray.empty l2 x12_3] : List ByteArray)) (inner := [.string x0_3, .string (rdOf ByteArray.empty l2 x12_3)]) (ok := fun _ => True) (okp := fun _ => True) ?hr ?hp (fun _ hk => hk) trivial (Below.refl _ _) (Nat.le_refl _) (by simp) ?_; (case hd => rfl); (case hg => rfl); (case hr => exact gr_); (case hp => exact (Reps.one (show Kd.M Kd.string _ _ _ x0_3 [.string x0_3] from rfl) (Reps.one (show Kd.M Kd.string _ _ _ (rdOf ByteArray.empty l2 x12_3) [.string (rdOf ByteArray.empty l2 x12_3)] from rfl) (Reps.none _ _)))); intro v464 w29 ho30 hb hg_ hnew_; clear hg_ hnew_; (first | rw [← Ny463.out] at ho30 | (simp only [Int.reduceToNat] at ho30; rw [← Ny463.out] at ho30)); have HO465 := Aside0.mk (Kd.R_lower (Kd.R_new' ho30 (Kd.R_lt (mv_ HO_11.out))) (below_size bl_)); replace HB := Aside0.mk (below_step bl_ hb); replace HO_11 := Aside0.mk (Kd.R_elder' (mv_ HO_11.out) (Kd.R_base ho30) hb); clear hb ho30; obtain ⟨Ao31, co31, eo31⟩ := Kd.R_slice HO465.out; subst eo31) | (go_at_call 34; (with_reducible refine (Jh.calls k3 4 _ _ y463 t466 _ ?side1 ?side2 A26.out).mono ?_); (case side1 => repeat (first | exact (Kd.R_reads' HO465.out).2.2 | (with_reducible refine Kd.C_alloc ?_ _) | (with_reducible refine Kd.C_drewN ?_ _) | (with_reducible refine Kd.C_drew ?_))); (case side2 => exact (Kd.R_reads' HO465.out).2.1); rintro e w32 ⟨rfl, hb⟩; replace HB := Aside0.mk (below_step bl_ hb); replace HO465 := Aside0.mk (Kd.R_below (mv_ HO465.out) hb); replace HO_11 := Aside0.mk (Kd.R_below (mv_ HO_11.out) hb); (try clear hb); (try clear hb2); (try clear hk); (try clear hi)) | ((with_reducible refine gate_builtin (b := .append) (xs := #[.tmp 58, .tmp 63]) rfl ?_); at_builtin; refine Kd.R_append Kd.string (w0 := w) w.heap.size rfl (.tmp 58) (.tmp 63) 22 9 (.string ⟨#[]⟩) 16 rfl Tryz.underlying22 info9 rfl (by decide) (by omega) u11 x11_3 t466 [.string t466] (fun k_ => some k_ ≠ (.slice Ao31 y463.length co31 : Value).ownBlock) (fun _ => False) rfl rfl ?aP (fun _ hk => hk.elim) ?aF ?aO ?aB ?aS ?aL ?_; (case aP => exact rfl); (case aB => exact bl_); (case aF => exact (fun k_ hk => Kd.fresh' (Kd.R_lt (mv_ HO465.out)) k_ hk)); (case aO => exact (by refine mv_ ?_; exact Kd.R_mono HO_11.out (fun _ hk => hk.2))); (case aS => exact (below_size bl_)); (case aL => have := LMc27.out; omega); intro v468 w33 ho hb hg hat; rw [← Ny467.out] at ho; have HO469 := Aside0.mk (ho); replace HB := Aside0.mk (hb); replace HO465 := Aside0.mk (Kd.R_after (ok := (fun _ => True)) (mv_ HO465.out) hg hat); clear HO_11; clear ho hb hg hat) | ((with_reducible refine gate_dst (N := 67) rfl ?_); refine Kd.R_lit Kd.string _ 9 ?hg (N := 67) ?hd (xs := ([x0_3, rdOf ByteArray.empty l2 x12_3] : List ByteArray)) (inner := [.string x0_3, .string (rdOf ByteArray.empty l2 x12_3)]) (ok := fun _ => True) (okp := fun _ => True) ?hr ?hp (fun _ hk => hk) trivial (Below.refl _ _) (Nat.le_refl _) (by simp) ?_; (case hd => rfl); (case hg => rfl); (case hr => exact gr_); (case hp => exact (Reps.one (show Kd.M Kd.string _ _ _ x0_3 [.string x0_3] from rfl) (Reps.one (show Kd.M Kd.string _ _ _ (rdOf ByteArray.empty l2 x12_3) [.string (rdOf ByteArray.empty l2 x12_3)] from rfl) (Reps.none _ _)))); intro v471 w34 ho35 hb hg_ hnew_; clear hg_ hnew_; (first | rw [← Ny470.out] at ho35 | (simp only [Int.reduceToNat] at ho35; rw [← Ny470.out] at ho35)); have HO472 := Aside0.mk (Kd.R_lower (Kd.R_new' (Kd.R_new' ho35 (Kd.R_lt (mv_ HO465.out))) (Kd.R_lt (mv_ HO469.out))) (below_size bl_)); replace HB := Aside0.mk (below_step bl_ hb); replace HO469 := Aside0.mk (Kd.R_elder' (mv_ HO469.out) (Kd.R_base ho35) hb); replace HO465 := Aside0.mk (Kd.R_elder' (mv_ HO465.out) (Kd.R_base ho35) hb); clear hb ho35; obtain ⟨Ao36, co36, eo36⟩ := Kd.R_slice HO472.out; subst eo36) | (go_at_call 31; (with_reducible refine (Jq.calls k3 4 _ _ y470 t473 _ ?side1 ?side2 A28.out).mono ?_); (case side1 => repeat (first | exact (Kd.R_reads' HO472.out).2.2 | (with_reducible refine Kd.C_alloc ?_ _) | (with_reducible refine Kd.C_drewN ?_ _) | (with_reducible refine Kd.C_drew ?_))); (case side2 => exact (Kd.R_reads' HO472.out).2.1); rintro e w37 ⟨rfl, hb⟩; replace HB := Aside0.mk (below_step bl_ hb); replace HO472 := Aside0.mk (Kd.R_below (mv_ HO472.out) hb); replace HO469 := Aside0.mk (Kd.R_below (mv_ HO469.out) hb); replace HO465 := Aside0.mk (Kd.R_below (mv_ HO465.out) hb); (try clear hb); (try clear hb2); (try clear hk); (try clear hi))); try go_wp2_with (first | ((with_reducible refine gate_dst (N := 61) rfl ?_); refine Kd.R_lit Kd.string _ 9 ?hg (N := 61) ?hd (xs := ([x0_3, rdOf ByteArray.empty l2 x12_3] : List ByteArray)) (inner := [.string x0_3, .string (rdOf ByteArray.empty l2 x12_3)]) (ok := fun _ => True) (okp := fun _ => True) ?hr ?hp (fun _ hk => hk) trivial (Below.refl _ _) (Nat.le_refl _) (by simp) ?_; (case hd => rfl); (case hg => rfl); (case hr => exact gr_); (case hp => exact (Reps.one (show Kd.M Kd.string _ _ _ x0_3 [.string x0_3] from rfl) (Reps.one (show Kd.M Kd.string _ _ _ (rdOf ByteArray.empty l2 x12_3) [.string (rdOf ByteArray.empty l2 x12_3)] from rfl) (Reps.none _ _)))); intro v464 w29 ho30 hb hg_ hnew_; clear hg_ hnew_; (first | rw [← Ny463.out] at ho30 | (simp only [Int.reduceToNat] at ho30; rw [← Ny463.out] at ho30)); have HO465 := Aside0.mk (Kd.R_lower (Kd.R_new' ho30 (Kd.R_lt (mv_ HO_11.out))) (below_size bl_)); replace HB := Aside0.mk (below_step bl_ hb); replace HO_11 := Aside0.mk (Kd.R_elder' (mv_ HO_11.out) (Kd.R_base ho30) hb); clear hb ho30; obtain ⟨Ao31, co31, eo31⟩ := Kd.R_slice HO465.out; subst eo31) | (go_at_call 34; (with_reducible refine (Jh.calls k3 4 _ _ y463 t466 _ ?side1 ?side2 A26.out).mono ?_); (case side1 => repeat (first | exact (Kd.R_reads' HO465.out).2.2 | (with_reducible refine Kd.C_alloc ?_ _) | (with_reducible refine Kd.C_drewN ?_ _) | (with_reducible refine Kd.C_drew ?_))); (case side2 => exact (Kd.R_reads' HO465.out).2.1); rintro e w32 ⟨rfl, hb⟩; replace HB := Aside0.mk (below_step bl_ hb); replace HO465 := Aside0.mk (Kd.R_below (mv_ HO465.out) hb); replace HO_11 := Aside0.mk (Kd.R_below (mv_ HO_11.out) hb); clear hb) | ((with_reducible refine gate_builtin (b := .append) (xs := #[.tmp 58, .tmp 63]) rfl ?_); at_builtin; refine Kd.R_append Kd.string (w0 := w) w.heap.size rfl (.tmp 58) (.tmp 63) 22 9 (.string ⟨#[]⟩) 16 rfl Tryz.underlying22 info9 rfl (by decide) (by omega) u11 x11_3 t466 [.string t466] (fun k_ => some k_ ≠ (.slice Ao31 y463.length co31 : Value).ownBlock) (fun _ => False) rfl rfl ?aP (fun _ hk => hk.elim) ?aF ?aO ?aB ?aS ?aL ?_; (case aP => exact rfl); (case aB => exact bl_); (case aF => exact (fun k_ hk => Kd.fresh' (Kd.R_lt (mv_ HO465.out)) k_ hk)); (case aO => exact (by refine mv_ ?_; exact Kd.R_mono HO_11.out (fun _ hk => hk.2))); (case aS => exact (below_size bl_)); (case aL => have := LMc27.out; omega); intro v468 w33 ho hb hg hat; rw [← Ny467.out] at ho; have HO469 := Aside0.mk (ho); replace HB := Aside0.mk (hb); replace HO465 := Aside0.mk (Kd.R_after (ok := (fun _ => True)) (mv_ HO465.out) hg hat); clear HO_11; clear ho hb hg hat) | ((with_reducible refine gate_dst (N := 67) rfl ?_); refine Kd.R_lit Kd.string _ 9 ?hg (N := 67) ?hd (xs := ([x0_3, rdOf ByteArray.empty l2 x12_3] : List ByteArray)) (inner := [.string x0_3, .string (rdOf ByteArray.empty l2 x12_3)]) (ok := fun _ => True) (okp := fun _ => True) ?hr ?hp (fun _ hk => hk) trivial (Below.refl _ _) (Nat.le_refl _) (by simp) ?_; (case hd => rfl); (case hg => rfl); (case hr => exact gr_); (case hp => exact (Reps.one (show Kd.M Kd.string _ _ _ x0_3 [.string x0_3] from rfl) (Reps.one (show Kd.M Kd.string _ _ _ (rdOf ByteArray.empty l2 x12_3) [.string (rdOf ByteArray.empty l2 x12_3)] from rfl) (Reps.none _ _)))); intro v471 w34 ho35 hb hg_ hnew_; clear hg_ hnew_; (first | rw [← Ny470.out] at ho35 | (simp only [Int.reduceToNat] at ho35; rw [← Ny470.out] at ho35)); have HO472 := Aside0.mk (Kd.R_lower (Kd.R_new' (Kd.R_new' ho35 (Kd.R_lt (mv_ HO465.out))) (Kd.R_lt (mv_ HO469.out))) (below_size bl_)); replace HB := Aside0.mk (below_step bl_ hb); replace HO469 := Aside0.mk (Kd.R_elder' (mv_ HO469.out) (Kd.R_base ho35) hb); replace HO465 := Aside0.mk (Kd.R_elder' (mv_ HO465.out) (Kd.R_base ho35) hb); clear hb ho35; obtain ⟨Ao36, co36, eo36⟩ := Kd.R_slice HO472.out; subst eo36) | (go_at_call 31; (with_reducible refine (Jq.calls k3 4 _ _ y470 t473 _ ?side1 ?side2 A28.out).mono ?_); (case side1 => repeat (first | exact (Kd.R_reads' HO472.out).2.2 | (with_reducible refine Kd.C_alloc ?_ _) | (with_reducible refine Kd.C_drewN ?_ _) | (with_reducible refine Kd.C_drew ?_))); (case side2 => exact (Kd.R_reads' HO472.out).2.1); rintro e w37 ⟨rfl, hb⟩; replace HB := Aside0.mk (below_step bl_ hb); replace HO472 := Aside0.mk (Kd.R_below (mv_ HO472.out) hb); replace HO469 := Aside0.mk (Kd.R_below (mv_ HO469.out) hb); replace HO465 := Aside0.mk (Kd.R_below (mv_ HO465.out) hb); clear hb)))
        go_roundg k3
        case measure => have := HJ3.out; have := HJ6.out; have := HK3.out; omega
        case rel => exact ⟨(t473), (wrap64 (Int.tdiv x1_3 2)), (y467), (wrap64 (x12_3 + 1)), vq_, vq_, vq_, H', ⟨by have := HJ3.out; have := HJ6.out; have := HK3.out; omega⟩, ⟨by refine mv_ ?_; exact Kd.R_mono HO469.out (fun _ hk => trivial)⟩, ⟨bl_⟩⟩
       rw [if_neg c11] at H
       have c11b0 : decide (x12_3 < (l2.length : Int)) = false := decide_eq_false c11
       clear c11
       simp only [Option.some.injEq, Prod.mk.injEq] at H
       obtain ⟨rfl, rfl, rfl⟩ := H
       go_wp2
       repeat (go_quiet (fail); try go_wp2)
       go_ret3
       exact ⟨_, er_, mv_ HO_11.out, bl_⟩

/-! ### Ui = palaverref05_Named: function 35 -/
def Ui.f (k : Nat) (a0 : Int) (a1 : ByteArray) : Option (ByteArray) := (Jc.f k a0 1).bind fun bt474 => ((Jq.f k 5 (([bt474.1, a1] : List ByteArray))).bind fun t479 => (some t479))
set_option maxHeartbeats 64000000 in
set_option maxRecDepth 100000 in
theorem Ui.calls (k : Nat) (a0 : Int) (a1 : ByteArray) (r : ByteArray) (w : World) (h : Ui.f k a0 a1 = some r) :
 Calls Tryz.prog 35 #[.int .i64 a0, .string a1] w fun e w' => e = .returned (.string r) ∧ Below w.heap.size w w' := by
 have HB := Aside0.mk (Below.refl w.heap.size w)
 have H : ((Jc.f k a0 1).bind fun bt474 => ((Jq.f k 5 (([bt474.1, a1] : List ByteArray))).bind fun t479 => (some t479))) = some r := h
 clear h
 replace H := ob_ H
 obtain ⟨⟨t474, t475⟩, A30, H⟩ := H
 replace H : ((Jq.f k 5 (([t474, a1] : List ByteArray))).bind fun t479 => (some t479)) = some r := H
 have A3 := Aside0.mk A30
 clear A30
 generalize e_ : (([t474, a1] : List ByteArray) : List ByteArray) = y476 at H
 have Ny476 := Aside0.mk e_.symm
 clear e_
 revert H; refine oa_ fun t479 A4 H => ?_
 obtain rfl := Option.some.inj H
 go_enter Tryz.func35, Tryz.ntmps35
 go_wp2_with (first | ((with_reducible refine gate_callee (f := 33) rfl ?_); refine gL_ 9 Tryz.func33 #[.int .i64 a0, .int .i64 1] ?_; (with_reducible refine (Jc.calls k a0 1 t474 t475 _ A3.out).mono ?_); rintro e w5 ⟨rfl, hb⟩; refine ⟨_, rfl, ?_⟩; replace HB := Aside0.mk (below_step bl_ hb); clear hb) | ((with_reducible refine gate_dst (N := 14) rfl ?_); refine Kd.R_lit Kd.string _ 9 ?hg (N := 14) ?hd (xs := ([t474, a1] : List ByteArray)) (inner := [.string t474, .string a1]) (ok := fun _ => True) (okp := fun _ => True) ?hr ?hp (fun _ hk => hk) trivial (Below.refl _ _) (Nat.le_refl _) (by simp) ?_; (case hd => rfl); (case hg => rfl); (case hr => exact gr_); (case hp => exact (Reps.one (show Kd.M Kd.string _ _ _ t474 [.string t474] from rfl) (Reps.one (show Kd.M Kd.string _ _ _ a1 [.string a1] from rfl) (Reps.none _ _)))); intro v477 w6 ho7 hb hg_ hnew_; clear hg_ hnew_; (first | rw [← Ny476.out] at ho7 | (simp only [Int.reduceToNat] at ho7; rw [← Ny476.out] at ho7)); have HO478 := Aside0.mk (Kd.R_lower ho7 (below_size bl_)); replace HB := Aside0.mk (below_step bl_ hb); clear hb ho7; obtain ⟨Ao8, co8, eo8⟩ := Kd.R_slice HO478.out; subst eo8) | ((with_reducible refine gate_callee (f := 31) rfl ?_); refine gL_ 15 Tryz.func31 #[.int .i64 5, .slice Ao8 y476.length co8] ?_; (with_reducible refine (Jq.calls k 5 _ _ y476 t479 _ ?side1 ?side2 A4.out).mono ?_); (case side1 => repeat (first | exact (Kd.R_reads' HO478.out).2.2 | (with_reducible refine Kd.C_alloc ?_ _) | (with_reducible refine Kd.C_drewN ?_ _) | (with_reducible refine Kd.C_drew ?_))); (case side2 => exact (Kd.R_reads' HO478.out).2.1); rintro e w9 ⟨rfl, hb⟩; refine ⟨_, rfl, ?_⟩; replace HB := Aside0.mk (below_step bl_ hb); replace HO478 := Aside0.mk (Kd.R_below (mv_ HO478.out) hb); clear hb))
 go_ret
 exact ⟨er_, bl_⟩

/-! ### Uf = palaverref05_Verify: function 12 (walked by hand) -/
def Uf.f (k : Nat) (a0 : ByteArray) (a1 : ByteArray) (a2 : ByteArray) : Option (Bool × List ByteArray) := (Jk.f k a2).bind fun bt444 => (if bt444.2.2.2 = true then ((Jq.f k 6 (([a1] : List ByteArray))).bind fun t455 => ((Jm.f k t455 bt444.2.1).bind fun bt456 => ((Jg.f k bt456.1 bt444.1 bt444.2.2.1).bind fun bt460 => ((Jc.f k (bt444.2.2.1.length : Int) 1).bind fun bt465 => (if bt456.2.length + bt460.2.1.length < 8796093022208 then ((some (bt456.2 ++ bt460.2.1 : List ByteArray)).bind fun y467 => ((Jh.f k 5 (([bt465.1, bt460.1] : List ByteArray))).bind fun t473 => ((Jh.f k 6 (([a1] : List ByteArray))).bind fun t477 => ((some (([t473, t477] : List ByteArray) : List ByteArray)).bind fun y478 => (if y467.length + y478.length < 8796093022208 then ((Ui.f k (bt444.2.2.1.length : Int) bt460.1).bind fun t484 => (some ((t484.toList == a0.toList), (y467 ++ y478)))) else (none)))))) else (none)))))) else (some (false, ([] : List ByteArray))))
set_option maxHeartbeats 64000000 in
set_option maxRecDepth 100000 in
theorem Uf.calls (k : Nat) (a0 : ByteArray) (a1 : ByteArray) (a2 : ByteArray) (r1 : Bool) (r2 : List ByteArray) (w : World) (h : Uf.f k a0 a1 a2 = some (r1, r2)) :
 Calls Tryz.prog 12 #[.string a0, .string a1, .string a2] w fun e w' => ∃ v1_ : Value, e = .returned (.tuple #[.bool r1, v1_]) ∧ Kd.R Kd.string 9 w' w.heap.size (fun _ => True) v1_ r2 ∧ Below w.heap.size w w' := by
  unfold Uf.f at h
  obtain ⟨⟨leaf, vs, ps, ok⟩, h0, h⟩ := Option.bind_eq_some_iff.mp h
  have A0 := Aside0.mk h0
  clear h0
  cases ok with
  | false =>
    rw [if_neg (show ¬ (false = true) by decide)] at h
    simp only [Option.some.injEq, Prod.mk.injEq] at h
    obtain ⟨rfl, rfl⟩ := h
    go_enter Tryz.func12, Tryz.ntmps12
    go_wp2_with (go_at_call 29; (with_reducible refine (Jk.calls k a2 leaf vs ps false _ A0.out).mono ?_); rintro e w1 ⟨P1, P2, q1, q2, rfl, _, _, _, _, hb⟩; have HB := Aside0.mk hb; clear hb)
    go_ret2
    exact ⟨_, rfl, Kd.R_nil _ _ _ _ _, HB.out⟩
  | true =>
    rw [if_pos rfl] at h
    obtain ⟨t1, h1, h⟩ := Option.bind_eq_some_iff.mp h
    obtain ⟨⟨p, road⟩, h2, h⟩ := Option.bind_eq_some_iff.mp h
    obtain ⟨⟨root, more, ok2⟩, h3, h⟩ := Option.bind_eq_some_iff.mp h
    obtain ⟨⟨b, ok3⟩, h4, h⟩ := Option.bind_eq_some_iff.mp h
    obtain ⟨hl1, h⟩ := Option.ite_none_right_eq_some.mp h
    obtain ⟨y1, hy1, h⟩ := Option.bind_eq_some_iff.mp h
    obtain ⟨t2, h5, h⟩ := Option.bind_eq_some_iff.mp h
    obtain ⟨t3, h6, h⟩ := Option.bind_eq_some_iff.mp h
    obtain ⟨y2, hy2, h⟩ := Option.bind_eq_some_iff.mp h
    obtain ⟨hl2, h⟩ := Option.ite_none_right_eq_some.mp h
    obtain ⟨t4, h7, h⟩ := Option.bind_eq_some_iff.mp h
    simp only [Option.some.injEq, Prod.mk.injEq] at h hy1 hy2
    obtain ⟨rfl, rfl⟩ := h
    subst hy2
    have A1 := Aside0.mk h1
    have A2 := Aside0.mk (show Jm.f k t1 vs = some (p, road) from h2)
    have A3 := Aside0.mk (show Jg.f k p leaf ps = some (root, more, ok2) from h3)
    have A4 := Aside0.mk (show Jc.f k (ps.length : Int) 1 = some (b, ok3) from h4)
    have A7 := Aside0.mk (show Ui.f k (ps.length : Int) root = some t4 from h7)
    obtain ⟨x1, e1⟩ : ∃ x : List ByteArray, x = [a1] := ⟨_, rfl⟩
    obtain ⟨x2, e2⟩ : ∃ x : List ByteArray, x = [b, root] := ⟨_, rfl⟩
    obtain ⟨x3, e3⟩ : ∃ x : List ByteArray, x = [t2, t3] := ⟨_, rfl⟩
    have A5 := Aside0.mk (show Jh.f k 5 x2 = some t2 by rw [e2]; exact h5)
    have A6 := Aside0.mk (show Jh.f k 6 x1 = some t3 by rw [e1]; exact h6)
    have A8 := Aside0.mk (show Jq.f k 6 x1 = some t1 by rw [e1]; exact h1)
    have N1 := Aside0.mk e1
    have N2 := Aside0.mk e2
    have N3 := Aside0.mk e3
    have L1 := Aside0.mk (show road.length + more.length < 8796093022208 from hl1)
    have L2 := Aside0.mk (show y1.length + x3.length < 8796093022208 by rw [e3]; exact hl2)
    have NY := Aside0.mk hy1
    have HB0 := Aside0.mk (Below.refl w.heap.size w)
    rw [← e3]
    clear h1 h2 h3 h4 h5 h6 h7 e1 e2 e3 hl1 hl2 hy1
    go_enter Tryz.func12, Tryz.ntmps12
    go_wp2_with (first
      | (go_at_call 29; (with_reducible refine (Jk.calls k a2 leaf vs ps true _ A0.out).mono ?_); rintro e w1 ⟨P1, P2, q1, q2, rfl, hc1, hq1, hc2, hq2, hb⟩; have HB := Aside0.mk hb; have C1 := Aside0.mk hc1; have C2 := Aside0.mk hc2; have Q1 := Aside0.mk hq1; have Q2 := Aside0.mk hq2; clear hb hc1 hc2 hq1 hq2)
      | ((with_reducible refine gate_dst (N := 30) rfl ?_); refine Kd.R_lit Kd.string _ 9 ?hg (N := 30) ?hd (xs := ([a1] : List ByteArray)) (inner := [.string a1]) (ok := fun _ => True) (okp := fun _ => True) ?hr ?hp (fun _ hk => hk) trivial (Below.refl _ _) (Nat.le_refl _) (by simp) ?_; (case hd => rfl); (case hg => rfl); (case hr => exact gr_); (case hp => exact (Reps.one (show Kd.M Kd.string _ _ _ a1 [.string a1] from rfl) (Reps.none _ _))); intro v2 w2 ho hb hg_ hnew_; clear hg_ hnew_; (first | rw [← N1.out] at ho | (simp only [Int.reduceToNat] at ho; rw [← N1.out] at ho)); have HO := Aside0.mk ho; replace HB := Aside0.mk (below_step HB.out hb); replace C1 := Aside0.mk (Kd.C_below C1.out hb); replace C2 := Aside0.mk (Kd.C_below C2.out hb); clear hb ho; obtain ⟨B1, s1, eo⟩ := Kd.R_slice HO.out; subst eo)
      | (go_at_call 31; (with_reducible refine (Jq.calls k 6 B1 s1 x1 t1 _ (Kd.R_reads' HO.out).2.2 (Kd.R_reads' HO.out).2.1 A8.out).mono ?_); rintro e w3 ⟨rfl, hb⟩; replace HB := Aside0.mk (below_step HB.out hb); replace C1 := Aside0.mk (Kd.C_below C1.out hb); replace C2 := Aside0.mk (Kd.C_below C2.out hb); clear hb HO)
      | (go_at_call 30; (with_reducible refine (Jm.calls k t1 P1 q1 vs p road _ C1.out Q1.out A2.out).mono ?_); rintro e w4 ⟨v3, rfl, ho, hb⟩; have HR := Aside0.mk (Kd.R_lower ho (below_size HB.out)); replace HB := Aside0.mk (below_step HB.out hb); replace C2 := Aside0.mk (Kd.C_below C2.out hb); clear hb ho C1)
      | (go_at_call 32; (with_reducible refine (Jg.calls k p leaf P2 q2 ps root more ok2 _ C2.out Q2.out A3.out).mono ?_); rintro e w5 ⟨v4, rfl, ho, hb⟩; replace HR := Aside0.mk (Kd.R_below HR.out hb); have HM := Aside0.mk ho; replace HB := Aside0.mk (below_step HB.out hb); clear hb ho C2; obtain ⟨B2, s2, eo⟩ := Kd.R_slice HM.out; subst eo)
      | (go_at_call 33; (with_reducible refine (Jc.calls k (ps.length : Int) 1 b ok3 _ A4.out).mono ?_); rintro e w6 ⟨rfl, hb⟩; replace HR := Aside0.mk (Kd.R_below HR.out hb); replace HM := Aside0.mk (Kd.R_below HM.out hb); replace HB := Aside0.mk (below_step HB.out hb); clear hb)
      | ((with_reducible refine gate_builtin (b := .append) (xs := #[.tmp 50, .tmp 51]) rfl ?_); at_builtin; refine Kd.R_append_rows Kd.string (w0 := w) w.heap.size rfl (.tmp 50) (.tmp 51) 22 9 (.string ⟨#[]⟩) 16 rfl Tryz.underlying22 info9 rfl (by decide) (by omega) v3 road more _ _ _ (fun _ => True) (fun _ => False) rfl rfl ?aO ?aR (fun _ _ h => h) (fun _ h => h.elim) ?aF ?aB ?aS ?aL ?_; (case aR => exact (Kd.R_reads' HM.out).2.2); (case aB => exact HB.out); (case aF => exact fun _ _ => trivial); (case aO => exact HR.out); (case aS => exact below_size HB.out); (case aL => have := L1.out; omega); intro v7 wzv7 ho hb hg hat; rw [NY.out] at ho; replace HR := Aside0.mk ho; replace HB := Aside0.mk hb; clear ho hb hg hat HM)
      | ((with_reducible refine gate_dst (N := 56) rfl ?_); refine Kd.R_lit Kd.string _ 9 ?hg (N := 56) ?hd (xs := ([b, root] : List ByteArray)) (inner := [.string b, .string root]) (ok := fun _ => True) (okp := fun _ => True) ?hr ?hp (fun _ hk => hk) trivial (Below.refl _ _) (Nat.le_refl _) (by simp) ?_; (case hd => rfl); (case hg => rfl); (case hr => exact gr_); (case hp => exact (Reps.one (show Kd.M Kd.string _ _ _ b [.string b] from rfl) (Reps.one (show Kd.M Kd.string _ _ _ root [.string root] from rfl) (Reps.none _ _)))); intro v56 w56 ho hb hg_ hnew_; clear hg_ hnew_; (first | rw [← N2.out] at ho | (simp only [Int.reduceToNat] at ho; rw [← N2.out] at ho)); have HO := Aside0.mk ho; replace HR := Aside0.mk (Kd.R_below HR.out hb); replace HB := Aside0.mk (below_step HB.out hb); clear hb ho; obtain ⟨B56, s56, eo⟩ := Kd.R_slice HO.out; subst eo)
      | (go_at_call 34; (with_reducible refine (Jh.calls k 5 B56 s56 x2 t2 _ (Kd.R_reads' HO.out).2.2 (Kd.R_reads' HO.out).2.1 A5.out).mono ?_); rintro e w8 ⟨rfl, hb⟩; replace HR := Aside0.mk (Kd.R_below HR.out hb); replace HB := Aside0.mk (below_step HB.out hb); clear hb HO)
      | ((with_reducible refine gate_dst (N := 59) rfl ?_); refine Kd.R_lit Kd.string _ 9 ?hg (N := 59) ?hd (xs := ([a1] : List ByteArray)) (inner := [.string a1]) (ok := fun _ => True) (okp := fun _ => True) ?hr ?hp (fun _ hk => hk) trivial (Below.refl _ _) (Nat.le_refl _) (by simp) ?_; (case hd => rfl); (case hg => rfl); (case hr => exact gr_); (case hp => exact (Reps.one (show Kd.M Kd.string _ _ _ a1 [.string a1] from rfl) (Reps.none _ _))); intro v59 w59 ho hb hg_ hnew_; clear hg_ hnew_; (first | rw [← N1.out] at ho | (simp only [Int.reduceToNat] at ho; rw [← N1.out] at ho)); have HO := Aside0.mk ho; replace HR := Aside0.mk (Kd.R_below HR.out hb); replace HB := Aside0.mk (below_step HB.out hb); clear hb ho; obtain ⟨B59, s59, eo⟩ := Kd.R_slice HO.out; subst eo)
      | (go_at_call 34; (with_reducible refine (Jh.calls k 6 B59 s59 x1 t3 _ (Kd.R_reads' HO.out).2.2 (Kd.R_reads' HO.out).2.1 A6.out).mono ?_); rintro e w9 ⟨rfl, hb⟩; replace HR := Aside0.mk (Kd.R_below HR.out hb); replace HB := Aside0.mk (below_step HB.out hb); clear hb HO)
      | ((with_reducible refine gate_dst (N := 61) rfl ?_); refine Kd.R_lit Kd.string _ 9 ?hg (N := 61) ?hd (xs := ([t2, t3] : List ByteArray)) (inner := [.string t2, .string t3]) (ok := fun _ => True) (okp := fun _ => True) ?hr ?hp (fun _ hk => hk) trivial (Below.refl _ _) (Nat.le_refl _) (by simp) ?_; (case hd => rfl); (case hg => rfl); (case hr => exact gr_); (case hp => exact (Reps.one (show Kd.M Kd.string _ _ _ t2 [.string t2] from rfl) (Reps.one (show Kd.M Kd.string _ _ _ t3 [.string t3] from rfl) (Reps.none _ _)))); intro v61 w61 ho hb hg_ hnew_; clear hg_ hnew_; (first | rw [← N3.out] at ho | (simp only [Int.reduceToNat] at ho; rw [← N3.out] at ho)); have HO := Aside0.mk ho; replace HR := Aside0.mk (Kd.R_below HR.out hb); replace HB := Aside0.mk (below_step HB.out hb); clear hb ho; obtain ⟨B61, s61, eo⟩ := Kd.R_slice HO.out; subst eo)
      | ((with_reducible refine gate_builtin (b := .append) (xs := #[.tmp 53, .tmp 61]) rfl ?_); at_builtin; refine Kd.R_append_rows Kd.string (w0 := w) w.heap.size rfl (.tmp 53) (.tmp 61) 22 9 (.string ⟨#[]⟩) 16 rfl Tryz.underlying22 info9 rfl (by decide) (by omega) v7 y1 x3 _ _ _ (fun _ => True) (fun _ => False) rfl rfl ?aO ?aR (fun _ _ h => h) (fun _ h => h.elim) ?aF ?aB ?aS ?aL ?_; (case aR => exact (Kd.R_reads' HO.out).2.2); (case aB => exact HB.out); (case aF => exact fun _ _ => trivial); (case aO => exact HR.out); (case aS => exact below_size HB.out); (case aL => have := L2.out; omega); intro v10 wzv10 ho hb hg hat; replace HR := Aside0.mk ho; replace HB := Aside0.mk hb; clear ho hb hg hat HO)
      | (go_at_call 35; (with_reducible refine (Ui.calls k (ps.length : Int) root t4 _ A7.out).mono ?_); rintro e w11 ⟨rfl, hb⟩; replace HR := Aside0.mk (Kd.R_below HR.out hb); replace HB := Aside0.mk (below_step HB.out hb); clear hb))
    go_ret2
    exact ⟨_, er_, HR.out, HB.out⟩


/-! ### Jf = palaverref05_Clash: function 36 -/
mutual
def Jf.l0 : Nat → List ByteArray → List ByteArray → Int → Option (Bool)
 | 0, _, _, _ => none
 | k + 1, x0, x3, x4 => if x4 < (x0.length : Int) then (if 0 ≤ x4 then ((Ja.f k (rdOf ByteArray.empty x0 x4)).bind fun t484 => (if x4 < (x3.length : Int) then (Jf.l0 k x0 (x3.set (x4 : Int).toNat t484) (wrap64 (x4 + 1))) else (none))) else (none)) else (Jf.l1 k x0 x3 0)
def Jf.l1 : Nat → List ByteArray → List ByteArray → Int → Option (Bool)
 | 0, _, _, _ => none
 | k + 1, x0, x3, x5 => if x5 < (x0.length : Int) then (Jf.l2 k x0 x3 x5 0) else (some false)
def Jf.l2 : Nat → List ByteArray → List ByteArray → Int → Int → Option (Bool)
 | 0, _, _, _, _ => none
 | k + 1, x0, x3, x5, x6 => if x6 < x5 then (if 0 ≤ x5 then (if x5 < (x3.length : Int) then (if 0 ≤ x6 then (if x6 < (x3.length : Int) then (if (rdOf ByteArray.empty x3 x5).toList = (rdOf ByteArray.empty x3 x6).toList then (if x5 < (x0.length : Int) then (if x6 < (x0.length : Int) then (if (rdOf ByteArray.empty x0 x5).toList = (rdOf ByteArray.empty x0 x6).toList then (Jf.l2 k x0 x3 x5 (wrap64 (x6 + 1))) else (some true)) else (none)) else (none)) else (Jf.l2 k x0 x3 x5 (wrap64 (x6 + 1)))) else (none)) else (none)) else (none)) else (none)) else (Jf.l1 k x0 x3 (wrap64 (x5 + 1)))
end
def Jf.f (k : Nat) (l0 : List ByteArray) : Option (Bool) := if 0 ≤ (l0.length : Int) then (if ((l0.length : Int) : Int).toNat ≤ 17592186044416 then (Jf.l0 k l0 (List.replicate ((l0.length : Int) : Int).toNat (⟨#[]⟩ : ByteArray)) 0) else (none)) else (none)
set_option maxHeartbeats 64000000 in
set_option maxRecDepth 100000 in
theorem Jf.calls (k : Nat) (A0 : Option Addr) (c0 : Nat) (l0 : List ByteArray) (r : Bool) (w : World) (hr0 : Kd.C Kd.string w A0 l0.length l0) (hc0 : l0.length ≤ c0) (h : Jf.f k l0 = some r) :
 Calls Tryz.prog 36 #[.slice A0 l0.length c0] w fun e w' => e = .returned (.bool r) ∧ Below w.heap.size w w' := by
 have HR0 := Aside0.mk hr0
 have HC0 := Aside0.mk hc0
 clear hr0 hc0
 have HB := Aside0.mk (Below.refl w.heap.size w)
 have H : (if 0 ≤ (l0.length : Int) then (if ((l0.length : Int) : Int).toNat ≤ 17592186044416 then (Jf.l0 k l0 (List.replicate ((l0.length : Int) : Int).toNat (⟨#[]⟩ : ByteArray)) 0) else (none)) else (none)) = some r := h
 clear h
 revert H; refine ne_ fun c2 c2b0 c2b1 => ne_ fun c3 c3b0 c3b1 H => ?_
 clear c2 c3
 generalize e_ : (List.replicate ((l0.length : Int) : Int).toNat (⟨#[]⟩ : ByteArray) : List ByteArray) = y480 at H
 have Ny480 := Aside0.mk e_.symm
 clear e_
 have H' := Aside0.mk H
 clear H
 go_enter Tryz.func36, Tryz.ntmps36
 go_wp2_with (first | ((with_reducible refine gate_dst (N := 9) rfl ?_); refine Kd.R_make Kd.string _ 9 rfl (N := 9) rfl 22 _ _ rfl (l0.length : Int) rfl rfl Tryz.underlying22 (.string ⟨#[]⟩) 16 info9 rfl (by decide) (by omega) (⟨#[]⟩ : ByteArray) (ok := fun _ => True) (okp := fun _ => True) rfl (fun _ hk => hk) trivial (ae_) (Nat.le_trans (Nat.mul_le_mul_right _ (ae_ : (l0.length : Int).toNat ≤ 17592186044416)) (by omega)) (Below.refl _ _) (Nat.le_refl _) ?_; intro v481 w4 ho5 hb hg_ hnew_; clear hg_ hnew_; (first | rw [← Ny480.out] at ho5 | (simp only [Int.reduceToNat] at ho5; rw [← Ny480.out] at ho5)); have HO482 := Aside0.mk (Kd.R_lower ho5 (below_size bl_)); replace HB := Aside0.mk (below_step bl_ hb); clear hb ho5))
 repeat (go_quiet (first | ((with_reducible refine gate_dst (N := 9) rfl ?_); refine Kd.R_make Kd.string _ 9 rfl (N := 9) rfl 22 _ _ rfl (l0.length : Int) rfl rfl Tryz.underlying22 (.string ⟨#[]⟩) 16 info9 rfl (by decide) (by omega) (⟨#[]⟩ : ByteArray) (ok := fun _ => True) (okp := fun _ => True) rfl (fun _ hk => hk) trivial (ae_) (Nat.le_trans (Nat.mul_le_mul_right _ (ae_ : (l0.length : Int).toNat ≤ 17592186044416)) (by omega)) (Below.refl _ _) (Nat.le_refl _) ?_; intro v481 w4 ho5 hb hg_ hnew_; clear hg_ hnew_; (first | rw [← Ny480.out] at ho5 | (simp only [Int.reduceToNat] at ho5; rw [← Ny480.out] at ho5)); have HO482 := Aside0.mk (Kd.R_lower ho5 (below_size bl_)); replace HB := Aside0.mk (below_step bl_ hb); clear hb ho5)); try go_wp2_with (first | ((with_reducible refine gate_dst (N := 9) rfl ?_); refine Kd.R_make Kd.string _ 9 rfl (N := 9) rfl 22 _ _ rfl (l0.length : Int) rfl rfl Tryz.underlying22 (.string ⟨#[]⟩) 16 info9 rfl (by decide) (by omega) (⟨#[]⟩ : ByteArray) (ok := fun _ => True) (okp := fun _ => True) rfl (fun _ hk => hk) trivial (ae_) (Nat.le_trans (Nat.mul_le_mul_right _ (ae_ : (l0.length : Int).toNat ≤ 17592186044416)) (by omega)) (Below.refl _ _) (Nat.le_refl _) ?_; intro v481 w4 ho5 hb hg_ hnew_; clear hg_ hnew_; (first | rw [← Ny480.out] at ho5 | (simp only [Int.reduceToNat] at ho5; rw [← Ny480.out] at ho5)); have HO482 := Aside0.mk (Kd.R_lower ho5 (below_size bl_)); replace HB := Aside0.mk (below_step bl_ hb); clear hb ho5)))
 go_loopg [4] k (fun kq v4 w' => ∃ (x3_1 : List ByteArray) (x4_1 : Int), v4 = .int .i64 x4_1 ∧ Aside0 (Jf.l0 kq l0 x3_1 x4_1 = some r) ∧ Aside0 (kq ≤ k) ∧ Aside0 (Kd.R Kd.string 9 w' w.heap.size (fun _ => True) v481 x3_1) ∧ Aside0 (Below w.heap.size w w'))
 case atStart => exact ⟨(y480), (0), vq_, H', ⟨Nat.le_refl _⟩, ⟨mv_ HO482.out⟩, ⟨bl_⟩⟩
 case round =>
  clear H'
  clear c2b0 c2b1 c3b0 c3b1
  obtain ⟨x3_1, x4_1, rfl, HA, HK1, HO_3, HB⟩ := hrel
  cases gk with
  | zero => exact absurd HA.out (by simp [Jf.l0])
  | succ k1 =>
   have H := HA.out
   clear HA
   simp only [Jf.l0] at H
   by_cases c6 : x4_1 < (l0.length : Int)
   ·rw [if_pos c6] at H
    have c6b0 : decide (x4_1 < (l0.length : Int)) = true := decide_eq_true c6
    clear c6
    revert H; refine nd_ fun c7 c7b0 => oa_ fun t484 A8 => nd_ fun c9 c9b0 H => ?_
    clear c7 c9
    generalize e_ : (x3_1.set (x4_1 : Int).toNat t484 : List ByteArray) = y485 at H
    have Ny485 := Aside0.mk e_.symm
    clear e_
    have H' := Aside0.mk H
    clear H
    have p483 : 0 ≤ (x4_1 : Int) := ae_
    have q483 : x4_1 < (l0.length : Int) := ae_
    obtain ⟨ad483, e483, hx483_0⟩ := Kd.at_string HR0.out x4_1 p483 q483
    cases e483
    replace hx483_0 := (HB.out.cell (World.block_lt_of_cell? w _ hx483_0)).trans hx483_0
    replace p483 := eq_true p483
    replace q483 := eq_true q483
    go_wp2_with (first | (go_at_call 62; (with_reducible refine (Ja.calls k1 (rdOf ByteArray.empty l0 x4_1) t484 _ A8.out).mono ?_); rintro e w11 ⟨rfl, hb⟩; replace HB := Aside0.mk (below_step bl_ hb); replace HO_3 := Aside0.mk (Kd.R_below (mv_ HO_3.out) hb); clear hb; have p10 : 0 ≤ (x4_1 : Int) := ae_; have q10 : (x4_1 : Int) < ((x3_1.length : Int) : Int) := ae_; obtain ⟨go10, co10, eo10, gb10, gl10, cl10, HG10⟩ := Kd.R_form HO_3.out (by omega); (first | cases eo10 | (injection eo10 with ea_ en_ ec_; (first | subst ea_ | (injection ea_ with ea_; subst ea_)); subst ec_; clear en_)); have GB10 := Aside0.mk gb10; have GG10 := Aside0.mk HG10; clear gb10 gl10 HG10; obtain ⟨hx10_0, hf10_0⟩ := Kd.R_celln (⟨#[]⟩ : ByteArray) HO_3.out (x4_1 : Int) p10 q10; replace p10 := eq_true p10; replace q10 := eq_true q10; obtain ⟨hy12_, hz12_⟩ := Kd.R_celln (⟨#[]⟩ : ByteArray) HO_3.out (x4_1 : Int) (ae_) (ae_); have HP12 := Kd.R_putg HO_3.out (x4_1 : Int) t484) | ((with_reducible refine gate_store (t := 9) (p := 23) rfl ?_); refine store_event (t := 9) (p := 23) (v := ?vo_w13) (w1 := (w11.setCell ⟨go10, (x4_1 : Int).toNat, none⟩ (.string t484))) ?hg ?ho ?hn ?hr ?_; (case ho => rfl); (case hg => rfl); (case hn => rfl); (case hr => exact gr_); intro w13 hw; have hg : w11.grownBy w13 (some go10) := (by rw [hw]; exact HP12.2); have hp_ : Kd.R Kd.string 9 w13 w.heap.size (fun _ => True) (.slice (some ⟨go10, 0, none⟩) x3_1.length co10) y485 := (by rw [hw, Ny485.out]; exact HP12.1); clear HP12; replace HB := Aside0.mk ((by rw [hw]; exact below_set (HB.out) GB10.out : Below w.heap.size w w13)); replace HO_3 := Aside0.mk (hp_); clear hg hw hp_))
    repeat (go_quiet (first | (go_at_call 62; (with_reducible refine (Ja.calls k1 (rdOf ByteArray.empty l0 x4_1) t484 _ A8.out).mono ?_); rintro e w11 ⟨rfl, hb⟩; replace HB := Aside0.mk (below_step bl_ hb); replace HO_3 := Aside0.mk (Kd.R_below (mv_ HO_3.out) hb); (try clear hb); (try clear hb2); (try clear hk); (try clear hi); have p10 : 0 ≤ (x4_1 : Int) := ae_; have q10 : (x4_1 : Int) < ((x3_1.length : Int) : Int) := ae_; obtain ⟨go10, co10, eo10, gb10, gl10, cl10, HG10⟩ := Kd.R_form HO_3.out (by omega); (first | cases eo10 | (injection eo10 with ea_ en_ ec_; (first | subst ea_ | (injection ea_ with ea_; subst ea_)); subst ec_; clear en_)); have GB10 := Aside0.mk gb10; have GG10 := Aside0.mk HG10; clear gb10 gl10 HG10; obtain ⟨hx10_0, hf10_0⟩ := Kd.R_celln (⟨#[]⟩ : ByteArray) HO_3.out (x4_1 : Int) p10 q10; replace p10 := eq_true p10; replace q10 := eq_true q10; obtain ⟨hy12_, hz12_⟩ := Kd.R_celln (⟨#[]⟩ : ByteArray) HO_3.out (x4_1 : Int) (ae_) (ae_); have HP12 := Kd.R_putg HO_3.out (x4_1 : Int) t484) | ((with_reducible refine gate_store (t := 9) (p := 23) rfl ?_); (try (rw [drewN_self w11]; generalize hq_ : World.drewN w11 _ = w11; have n0_ := Aside0.mk (Kd.R_at hq_ HO_3.out); have n1_ := Aside0.mk (below_at hq_ HB.out); clear hq_ HO_3 HB; have HO_3 := n0_; have HB := n1_; clear n0_ n1_; (try (try (obtain ⟨hx10_0, hf10_0⟩ := Kd.R_celln (⟨#[]⟩ : ByteArray) HO_3.out (x4_1 : Int) (by first | exact p10 | exact of_eq_true p10) (by first | exact q10 | exact of_eq_true q10)))); (try (obtain ⟨hy12_, hz12_⟩ := Kd.R_celln (⟨#[]⟩ : ByteArray) HO_3.out (x4_1 : Int) (ae_) (ae_))); (try (have HP12 := Kd.R_putg HO_3.out (x4_1 : Int) t484)))); refine store_event (t := 9) (p := 23) (v := ?vo_w13) (w1 := (w11.setCell ⟨go10, (x4_1 : Int).toNat, none⟩ (.string t484))) ?hg ?ho ?hn ?hr ?_; (case ho => rfl); (case hg => rfl); (case hn => rfl); (case hr => exact gr_); intro w13 hw; have hg : w11.grownBy w13 (some go10) := (by rw [hw]; exact HP12.2); have hp_ : Kd.R Kd.string 9 w13 w.heap.size (fun _ => True) (.slice (some ⟨go10, 0, none⟩) x3_1.length co10) y485 := (by rw [hw, Ny485.out]; exact HP12.1); clear HP12; replace HB := Aside0.mk ((by rw [hw]; exact below_set (HB.out) GB10.out : Below w.heap.size w w13)); replace HO_3 := Aside0.mk (hp_); clear hg hw hp_)); try go_wp2_with (first | (go_at_call 62; (with_reducible refine (Ja.calls k1 (rdOf ByteArray.empty l0 x4_1) t484 _ A8.out).mono ?_); rintro e w11 ⟨rfl, hb⟩; replace HB := Aside0.mk (below_step bl_ hb); replace HO_3 := Aside0.mk (Kd.R_below (mv_ HO_3.out) hb); (try clear hb); (try clear hb2); (try clear hk); (try clear hi); have p10 : 0 ≤ (x4_1 : Int) := ae_; have q10 : (x4_1 : Int) < ((x3_1.length : Int) : Int) := ae_; obtain ⟨go10, co10, eo10, gb10, gl10, cl10, HG10⟩ := Kd.R_form HO_3.out (by omega); (first | cases eo10 | (injection eo10 with ea_ en_ ec_; (first | subst ea_ | (injection ea_ with ea_; subst ea_)); subst ec_; clear en_)); have GB10 := Aside0.mk gb10; have GG10 := Aside0.mk HG10; clear gb10 gl10 HG10; obtain ⟨hx10_0, hf10_0⟩ := Kd.R_celln (⟨#[]⟩ : ByteArray) HO_3.out (x4_1 : Int) p10 q10; replace p10 := eq_true p10; replace q10 := eq_true q10; obtain ⟨hy12_, hz12_⟩ := Kd.R_celln (⟨#[]⟩ : ByteArray) HO_3.out (x4_1 : Int) (ae_) (ae_); have HP12 := Kd.R_putg HO_3.out (x4_1 : Int) t484) | ((with_reducible refine gate_store (t := 9) (p := 23) rfl ?_); (try (rw [drewN_self w11]; generalize hq_ : World.drewN w11 _ = w11; have n0_ := Aside0.mk (Kd.R_at hq_ HO_3.out); have n1_ := Aside0.mk (below_at hq_ HB.out); clear hq_ HO_3 HB; have HO_3 := n0_; have HB := n1_; clear n0_ n1_; (try (try (obtain ⟨hx10_0, hf10_0⟩ := Kd.R_celln (⟨#[]⟩ : ByteArray) HO_3.out (x4_1 : Int) (by first | exact p10 | exact of_eq_true p10) (by first | exact q10 | exact of_eq_true q10)))); (try (obtain ⟨hy12_, hz12_⟩ := Kd.R_celln (⟨#[]⟩ : ByteArray) HO_3.out (x4_1 : Int) (ae_) (ae_))); (try (have HP12 := Kd.R_putg HO_3.out (x4_1 : Int) t484)))); refine store_event (t := 9) (p := 23) (v := ?vo_w13) (w1 := (w11.setCell ⟨go10, (x4_1 : Int).toNat, none⟩ (.string t484))) ?hg ?ho ?hn ?hr ?_; (case ho => rfl); (case hg => rfl); (case hn => rfl); (case hr => exact gr_); intro w13 hw; have hg : w11.grownBy w13 (some go10) := (by rw [hw]; exact HP12.2); have hp_ : Kd.R Kd.string 9 w13 w.heap.size (fun _ => True) (.slice (some ⟨go10, 0, none⟩) x3_1.length co10) y485 := (by rw [hw, Ny485.out]; exact HP12.1); clear HP12; replace HB := Aside0.mk ((by rw [hw]; exact below_set (HB.out) GB10.out : Below w.heap.size w w13)); replace HO_3 := Aside0.mk (hp_); clear hg hw hp_)))
    go_roundg k1
    case measure => have := HK1.out; omega
    case rel => exact ⟨(y485), (wrap64 (x4_1 + 1)), vq_, H', ⟨by have := HK1.out; omega⟩, ⟨mv_ HO_3.out⟩, ⟨bl_⟩⟩
   rw [if_neg c6] at H
   have c6b0 : decide (x4_1 < (l0.length : Int)) = false := decide_eq_false c6
   clear c6
   have H' := Aside0.mk H
   clear H
   go_wp2
   repeat (go_quiet (fail); try go_wp2)
   go_loopg [5] k1 (fun kq v5 w' => ∃ (x5_2 : Int), v5 = .int .i64 x5_2 ∧ Aside0 (Jf.l1 kq l0 x3_1 x5_2 = some r) ∧ Aside0 (kq ≤ k1) ∧ Aside0 (Kd.R Kd.string 9 w' w.heap.size (fun _ => True) v481 x3_1) ∧ Aside0 (Below w.heap.size w w'))
   case atStart => exact ⟨(0), vq_, H', ⟨Nat.le_refl _⟩, ⟨mv_ HO_3.out⟩, ⟨bl_⟩⟩
   case round =>
    clear H'
    clear c6b0
    obtain ⟨x5_2, rfl, HA, HK2, HO_3, HB⟩ := hrel
    cases gk with
    | zero => exact absurd HA.out (by simp [Jf.l1])
    | succ k2 =>
     have H := HA.out
     clear HA
     simp only [Jf.l1] at H
     by_cases c14 : x5_2 < (l0.length : Int)
     ·rw [if_pos c14] at H
      have c14b0 : decide (x5_2 < (l0.length : Int)) = true := decide_eq_true c14
      clear c14
      have H' := Aside0.mk H
      clear H
      go_wp2
      repeat (go_quiet (fail); try go_wp2)
      go_loopg [6] k2 (fun kq v6 w' => ∃ (x6_3 : Int), v6 = .int .i64 x6_3 ∧ Aside0 (Jf.l2 kq l0 x3_1 x5_2 x6_3 = some r) ∧ Aside0 (kq ≤ k2) ∧ Aside0 (Kd.R Kd.string 9 w' w.heap.size (fun _ => True) v481 x3_1) ∧ Aside0 (Below w.heap.size w w'))
      case atStart => exact ⟨(0), vq_, H', ⟨Nat.le_refl _⟩, ⟨mv_ HO_3.out⟩, ⟨bl_⟩⟩
      case round =>
       clear H'
       clear c14b0
       obtain ⟨x6_3, rfl, HA, HK3, HO_3, HB⟩ := hrel
       cases gk with
       | zero => exact absurd HA.out (by simp [Jf.l2])
       | succ k3 =>
        have H := HA.out
        clear HA
        simp only [Jf.l2] at H
        by_cases c15 : x6_3 < x5_2
        ·rw [if_pos c15] at H
         have c15b0 : decide (x6_3 < x5_2) = true := decide_eq_true c15
         clear c15
         revert H; refine nd_ fun c16 c16b0 => nd_ fun c17 c17b0 => nd_ fun c18 c18b0 => nd_ fun c19 c19b0 H => ?_
         clear c16 c17 c18 c19
         by_cases c20 : (rdOf ByteArray.empty x3_1 x5_2).toList = (rdOf ByteArray.empty x3_1 x6_3).toList
         ·rw [if_pos c20] at H
          have c20b0 : ((rdOf ByteArray.empty x3_1 x5_2).toList == (rdOf ByteArray.empty x3_1 x6_3).toList) = true := beq_iff_eq.mpr c20
          have c20b1 : ((rdOf ByteArray.empty x3_1 x5_2).toList != (rdOf ByteArray.empty x3_1 x6_3).toList) = false := bne_eq_false_iff_eq.mpr c20
          clear c20
          revert H; refine nd_ fun c21 c21b0 => nd_ fun c22 c22b0 H => ?_
          clear c21 c22
          by_cases c23 : (rdOf ByteArray.empty l0 x5_2).toList = (rdOf ByteArray.empty l0 x6_3).toList
          ·rw [if_pos c23] at H
           have c23b0 : ((rdOf ByteArray.empty l0 x5_2).toList == (rdOf ByteArray.empty l0 x6_3).toList) = true := beq_iff_eq.mpr c23
           have c23b1 : ((rdOf ByteArray.empty l0 x5_2).toList != (rdOf ByteArray.empty l0 x6_3).toList) = false := bne_eq_false_iff_eq.mpr c23
           clear c23
           have H' := Aside0.mk H
           clear H
           obtain ⟨Ao24, co24, eo24⟩ := Kd.R_slice HO_3.out
           subst eo24
           have p486 : 0 ≤ (x5_2 : Int) := ae_
           have q486 : x5_2 < (x3_1.length : Int) := ae_
           obtain ⟨ad486, e486, hx486_0⟩ := Kd.at_string (Kd.R_reads' HO_3.out).2.2 x5_2 p486 q486
           cases e486
           replace p486 := eq_true p486
           replace q486 := eq_true q486
           have p487 : 0 ≤ (x6_3 : Int) := ae_
           have q487 : x6_3 < (x3_1.length : Int) := ae_
           obtain ⟨ad487, e487, hx487_0⟩ := Kd.at_string (Kd.R_reads' HO_3.out).2.2 x6_3 p487 q487
           obtain rfl : ad486 = ad487 := (by injection e487)
           replace p487 := eq_true p487
           replace q487 := eq_true q487
           have p488 : 0 ≤ (x5_2 : Int) := ae_
           have q488 : x5_2 < (l0.length : Int) := ae_
           obtain ⟨ad488, e488, hx488_0⟩ := Kd.at_string HR0.out x5_2 p488 q488
           cases e488
           replace hx488_0 := (HB.out.cell (World.block_lt_of_cell? w _ hx488_0)).trans hx488_0
           replace p488 := eq_true p488
           replace q488 := eq_true q488
           have p489 : 0 ≤ (x6_3 : Int) := ae_
           have q489 : x6_3 < (l0.length : Int) := ae_
           obtain ⟨ad489, e489, hx489_0⟩ := Kd.at_string HR0.out x6_3 p489 q489
           obtain rfl : ad488 = ad489 := (by injection e489)
           replace hx489_0 := (HB.out.cell (World.block_lt_of_cell? w _ hx489_0)).trans hx489_0
           replace p489 := eq_true p489
           replace q489 := eq_true q489
           go_wp2
           repeat (go_quiet (fail); try go_wp2)
           go_roundg k3
           case measure => have := HK1.out; have := HK2.out; have := HK3.out; omega
           case rel => exact ⟨(wrap64 (x6_3 + 1)), vq_, H', ⟨by have := HK1.out; have := HK2.out; have := HK3.out; omega⟩, ⟨mv_ HO_3.out⟩, ⟨bl_⟩⟩
          rw [if_neg c23] at H
          have c23b0 : ((rdOf ByteArray.empty l0 x5_2).toList == (rdOf ByteArray.empty l0 x6_3).toList) = false := beq_eq_false_iff_ne.mpr c23
          have c23b1 : ((rdOf ByteArray.empty l0 x5_2).toList != (rdOf ByteArray.empty l0 x6_3).toList) = true := bne_iff_ne.mpr c23
          obtain rfl := Option.some.inj H
          obtain ⟨Ao25, co25, eo25⟩ := Kd.R_slice HO_3.out
          subst eo25
          have p486 : 0 ≤ (x5_2 : Int) := ae_
          have q486 : x5_2 < (x3_1.length : Int) := ae_
          obtain ⟨ad486, e486, hx486_0⟩ := Kd.at_string (Kd.R_reads' HO_3.out).2.2 x5_2 p486 q486
          cases e486
          replace p486 := eq_true p486
          replace q486 := eq_true q486
          have p487 : 0 ≤ (x6_3 : Int) := ae_
          have q487 : x6_3 < (x3_1.length : Int) := ae_
          obtain ⟨ad487, e487, hx487_0⟩ := Kd.at_string (Kd.R_reads' HO_3.out).2.2 x6_3 p487 q487
          obtain rfl : ad486 = ad487 := (by injection e487)
          replace p487 := eq_true p487
          replace q487 := eq_true q487
          have p488 : 0 ≤ (x5_2 : Int) := ae_
          have q488 : x5_2 < (l0.length : Int) := ae_
          obtain ⟨ad488, e488, hx488_0⟩ := Kd.at_string HR0.out x5_2 p488 q488
          cases e488
          replace hx488_0 := (HB.out.cell (World.block_lt_of_cell? w _ hx488_0)).trans hx488_0
          replace p488 := eq_true p488
          replace q488 := eq_true q488
          have p489 : 0 ≤ (x6_3 : Int) := ae_
          have q489 : x6_3 < (l0.length : Int) := ae_
          obtain ⟨ad489, e489, hx489_0⟩ := Kd.at_string HR0.out x6_3 p489 q489
          obtain rfl : ad488 = ad489 := (by injection e489)
          replace hx489_0 := (HB.out.cell (World.block_lt_of_cell? w _ hx489_0)).trans hx489_0
          replace p489 := eq_true p489
          replace q489 := eq_true q489
          go_wp2
          repeat (go_quiet (fail); try go_wp2)
          go_ret
          exact ⟨er_, bl_⟩
         rw [if_neg c20] at H
         have c20b0 : ((rdOf ByteArray.empty x3_1 x5_2).toList == (rdOf ByteArray.empty x3_1 x6_3).toList) = false := beq_eq_false_iff_ne.mpr c20
         have c20b1 : ((rdOf ByteArray.empty x3_1 x5_2).toList != (rdOf ByteArray.empty x3_1 x6_3).toList) = true := bne_iff_ne.mpr c20
         have H' := Aside0.mk H
         clear H
         obtain ⟨Ao26, co26, eo26⟩ := Kd.R_slice HO_3.out
         subst eo26
         have p486 : 0 ≤ (x5_2 : Int) := ae_
         have q486 : x5_2 < (x3_1.length : Int) := ae_
         obtain ⟨ad486, e486, hx486_0⟩ := Kd.at_string (Kd.R_reads' HO_3.out).2.2 x5_2 p486 q486
         cases e486
         replace p486 := eq_true p486
         replace q486 := eq_true q486
         have p487 : 0 ≤ (x6_3 : Int) := ae_
         have q487 : x6_3 < (x3_1.length : Int) := ae_
         obtain ⟨ad487, e487, hx487_0⟩ := Kd.at_string (Kd.R_reads' HO_3.out).2.2 x6_3 p487 q487
         obtain rfl : ad486 = ad487 := (by injection e487)
         replace p487 := eq_true p487
         replace q487 := eq_true q487
         go_wp2
         repeat (go_quiet (fail); try go_wp2)
         go_roundg k3
         case measure => have := HK1.out; have := HK2.out; have := HK3.out; omega
         case rel => exact ⟨(wrap64 (x6_3 + 1)), vq_, H', ⟨by have := HK1.out; have := HK2.out; have := HK3.out; omega⟩, ⟨mv_ HO_3.out⟩, ⟨bl_⟩⟩
        rw [if_neg c15] at H
        have c15b0 : decide (x6_3 < x5_2) = false := decide_eq_false c15
        clear c15
        have H' := Aside0.mk H
        clear H
        go_wp2
        repeat (go_quiet (fail); try go_wp2)
        go_roundg k3
        case measure => have := HK1.out; have := HK2.out; have := HK3.out; omega
        case rel => exact ⟨(wrap64 (x5_2 + 1)), vq_, H', ⟨by have := HK1.out; have := HK2.out; have := HK3.out; omega⟩, ⟨mv_ HO_3.out⟩, ⟨bl_⟩⟩
     rw [if_neg c14] at H
     have c14b0 : decide (x5_2 < (l0.length : Int)) = false := decide_eq_false c14
     clear c14
     obtain rfl := Option.some.inj H
     go_wp2
     repeat (go_quiet (fail); try go_wp2)
     go_ret
     exact ⟨er_, bl_⟩

/-! ### Jj = palaverref05_Round: function 37 (walked by hand) -/
mutual
def Jj.l0 : Nat → List ByteArray → Int → Option (Bool)
 | 0, _, _ => none
 | k + 1, x4, x7 => if x7 < (x4.length : Int) then (if 0 ≤ x7 then (Jj.l1 k x4 x7 (([rdOf ByteArray.empty x4 x7] : List ByteArray)) 0) else (none)) else (some false)
def Jj.l1 : Nat → List ByteArray → Int → List ByteArray → Int → Option (Bool)
 | 0, _, _, _, _ => none
 | k + 1, x4, x7, x8, x9 => if x9 < 15 then (if 0 ≤ x9 then (if x9 < (x8.length : Int) then ((Uh.f k x7 (rdOf ByteArray.empty x8 x9)).bind fun t583 => (Jj.l2 k x4 x7 x8 x9 t583 0)) else (none)) else (none)) else (Jj.l0 k x4 (wrap64 (x7 + 1)))
def Jj.l2 : Nat → List ByteArray → Int → List ByteArray → Int → ByteArray → Int → Option (Bool)
 | 0, _, _, _, _, _, _ => none
 | k + 1, x4, x7, x8, x9, x10, x11 => if x11 ≤ x9 then (if 0 ≤ x11 then (if x11 < (x8.length : Int) then (if (rdOf ByteArray.empty x8 x11).toList = x10.toList then (some true) else (Jj.l2 k x4 x7 x8 x9 x10 (wrap64 (x11 + 1)))) else (none)) else (none)) else (if x8.length < 8796093022208 then (Jj.l1 k x4 x7 (x8 ++ [x10]) (wrap64 (x9 + 1))) else (none))
end
def Jj.f (k : Nat) (a0 : ByteArray) : Option (Bool) := (Jk.f k a0).bind fun bt570 => (Jj.l0 k bt570.2.1 0)
set_option maxHeartbeats 64000000 in
set_option maxRecDepth 100000 in
theorem Jj.calls (k : Nat) (a0 : ByteArray) (r : Bool) (w : World) (h : Jj.f k a0 = some r) :
 Calls Tryz.prog 37 #[.string a0] w fun e w' => e = .returned (.bool r) ∧ Below w.heap.size w w' := by
 have HB := Aside0.mk (Below.refl w.heap.size w)
 have H : ((Jk.f k a0).bind fun bt562 => (Jj.l0 k bt562.2.1 0)) = some r := h
 clear h
 replace H := ob_ H
 obtain ⟨⟨t562, t563, t564, t565⟩, A20, H⟩ := H
 replace H : (Jj.l0 k t563 0) = some r := H
 have A2 := Aside0.mk A20
 clear A20
 have H' := Aside0.mk H
 clear H
 go_enter Tryz.func37, Tryz.ntmps37
 go_wp2_with (go_at_call 29; (with_reducible refine (Jk.calls k a0 t562 t563 t564 t565 _ A2.out).mono ?_); rintro e w3 ⟨A1_, A2_, q1, q2, rfl, hc1, hq1, _, _, hb⟩; have HC := Aside0.mk hc1; have HQ := Aside0.mk hq1; have HB0 := Aside0.mk (below_step bl_ hb); clear hb hc1 hq1 HB; have HB := Aside0.mk (Below.refl w3.heap.size w3))
 go_loopg [7] k (fun kq v7 w' => ∃ (x7_1 : Int), v7 = .int .i64 x7_1 ∧ Aside0 (Jj.l0 kq t563 x7_1 = some r) ∧ Aside0 (kq ≤ k) ∧ Aside0 (Below w3.heap.size w3 w'))
 case atStart => exact ⟨(0), vq_, H', ⟨Nat.le_refl _⟩, ⟨bl_⟩⟩
 case round =>
  clear H'
  (try clear c1); (try clear p2)
  obtain ⟨x7_1, rfl, HA, HK1, HB⟩ := hrel
  cases gk with
  | zero => exact absurd HA.out (by simp [Jj.l0])
  | succ k1 =>
   have H := HA.out
   clear HA
   simp only [Jj.l0] at H
   by_cases c4 : x7_1 < (t563.length : Int)
   ·rw [if_pos c4] at H
    have c4b0 : decide (x7_1 < (t563.length : Int)) = true := decide_eq_true c4
    clear c4
    revert H; refine nd_ fun c5 c5b0 H => ?_
    clear c5
    generalize e_ : (([rdOf ByteArray.empty t563 x7_1] : List ByteArray) : List ByteArray) = y571 at H
    have Ny571 := Aside0.mk e_.symm
    clear e_
    have H' := Aside0.mk H
    clear H
    have p570 : 0 ≤ (x7_1 : Int) := ae_
    have q570 : x7_1 < (t563.length : Int) := ae_
    obtain ⟨ad570, e570, hx570_0⟩ := Kd.at_string (Kd.C_below HC.out HB.out) x7_1 p570 q570
    cases e570
    replace p570 := eq_true p570
    replace q570 := eq_true q570
    go_wp2_with (first | ((with_reducible refine gate_dst (N := 29) rfl ?_); refine Kd.R_lit Kd.string _ 9 ?hg (N := 29) ?hd (xs := ([rdOf ByteArray.empty t563 x7_1] : List ByteArray)) (inner := [.string (rdOf ByteArray.empty t563 x7_1)]) (ok := fun _ => True) (okp := fun _ => True) ?hr ?hp (fun _ hk => hk) trivial (Below.refl _ _) (Nat.le_refl _) (by simp) ?_; (case hd => rfl); (case hg => rfl); (case hr => exact gr_); (case hp => exact (Reps.one (show Kd.M Kd.string _ _ _ (rdOf ByteArray.empty t563 x7_1) [.string (rdOf ByteArray.empty t563 x7_1)] from rfl) (Reps.none _ _))); intro v572 w7 ho8 hb hg_ hnew_; clear hg_ hnew_; (first | rw [← Ny571.out] at ho8 | (simp only [Int.reduceToNat] at ho8; rw [← Ny571.out] at ho8)); have HO573 := Aside0.mk (Kd.R_lower ho8 (below_size bl_)); replace HB := Aside0.mk (below_step bl_ hb); clear hb ho8))
    go_loopg [8, 9] k1 (fun kq v8 v9 w' => ∃ (x8_2 : List ByteArray) (x9_2 : Int), v9 = .int .i64 x9_2 ∧ Aside0 (Jj.l1 kq t563 x7_1 x8_2 x9_2 = some r) ∧ Aside0 (kq ≤ k1) ∧ Aside0 (Kd.R Kd.string 9 w' w3.heap.size (fun _ => True) v8 x8_2) ∧ Aside0 (Below w3.heap.size w3 w'))
    case atStart => exact ⟨(y571), (0), vq_, H', ⟨Nat.le_refl _⟩, ⟨mv_ HO573.out⟩, ⟨bl_⟩⟩
    case round =>
     clear H'
     (try clear c1); (try clear p2); (try clear c4); (try clear c4b0); (try clear c5); (try clear c5b0); (try clear p5); (try clear q5); (try clear hx5); (try clear p6); (try clear hx570_0); (try clear p2); (try clear p570); (try clear q570)
     obtain ⟨x8_2, x9_2, rfl, HA, HK2, HO_8, HB⟩ := hrel
     cases gk with
     | zero => exact absurd HA.out (by simp [Jj.l1])
     | succ k2 =>
      have H := HA.out
      clear HA
      simp only [Jj.l1] at H
      by_cases c9 : x9_2 < 15
      ·rw [if_pos c9] at H
       have c9b0 : decide (x9_2 < 15) = true := decide_eq_true c9
       clear c9
       revert H; refine nd_ fun c10 c10b0 => nd_ fun c11 c11b0 => oa_ fun t575 A12 H => ?_
       clear c10 c11
       have H' := Aside0.mk H
       clear H
       obtain ⟨Ao13, co13, eo13⟩ := Kd.R_slice HO_8.out
       subst eo13
       have p574 : 0 ≤ (x9_2 : Int) := ae_
       have q574 : x9_2 < (x8_2.length : Int) := ae_
       obtain ⟨ad574, e574, hx574_0⟩ := Kd.at_string (Kd.R_reads' HO_8.out).2.2 x9_2 p574 q574
       cases e574
       replace p574 := eq_true p574
       replace q574 := eq_true q574
       go_wp2_with (first | ((with_reducible refine gate_callee (f := 61) rfl ?_); refine gL_ 39 Tryz.func61 #[.int .i64 x7_1, .string (rdOf ByteArray.empty x8_2 x9_2)] ?_; (with_reducible refine (Uh.calls k2 x7_1 (rdOf ByteArray.empty x8_2 x9_2) t575 _ A12.out).mono ?_); rintro e w14 ⟨rfl, hb⟩; refine ⟨_, rfl, ?_⟩; replace HB := Aside0.mk (below_step bl_ hb); replace HO_8 := Aside0.mk (Kd.R_below (mv_ HO_8.out) hb); (try clear hb); (try clear hb2); (try clear hk); (try clear hi)))
       go_loopg [11] k2 (fun kq v11 w' => ∃ (x11_3 : Int), v11 = .int .i64 x11_3 ∧ Aside0 (Jj.l2 kq t563 x7_1 x8_2 x9_2 t575 x11_3 = some r) ∧ Aside0 (kq ≤ k2) ∧ Aside0 (Kd.R Kd.string 9 w' w3.heap.size (fun _ => True) (.slice (some ad574) x8_2.length co13) x8_2) ∧ Aside0 (Below w3.heap.size w3 w'))
       case atStart => exact ⟨(0), vq_, H', ⟨Nat.le_refl _⟩, ⟨mv_ HO_8.out⟩, ⟨bl_⟩⟩
       case round =>
        clear H'
        (try clear c1); (try clear p2); (try clear c4); (try clear c4b0); (try clear c5); (try clear c5b0); (try clear p5); (try clear q5); (try clear hx5); (try clear c6); (try clear p6); (try clear c9); (try clear c9b0); (try clear c10); (try clear c10b0); (try clear c11); (try clear c11b0); (try clear c12); (try clear hx570_0); (try clear hx574_0); (try clear p2); (try clear p5); (try clear p570); (try clear p574); (try clear p6); (try clear q5); (try clear q570); (try clear q574)
        obtain ⟨x11_3, rfl, HA, HK3, HO_8, HB⟩ := hrel
        cases gk with
        | zero => exact absurd HA.out (by simp [Jj.l2])
        | succ k3 =>
         have H := HA.out
         clear HA
         simp only [Jj.l2] at H
         by_cases c15 : x11_3 ≤ x9_2
         ·rw [if_pos c15] at H
          have c15b0 : decide (x11_3 ≤ x9_2) = true := decide_eq_true c15
          clear c15
          revert H; refine nd_ fun c16 c16b0 => nd_ fun c17 c17b0 H => ?_
          clear c16 c17
          by_cases c18 : (rdOf ByteArray.empty x8_2 x11_3).toList = t575.toList
          ·rw [if_pos c18] at H
           have c18b0 : ((rdOf ByteArray.empty x8_2 x11_3).toList == t575.toList) = true := beq_iff_eq.mpr c18
           have c18b1 : ((rdOf ByteArray.empty x8_2 x11_3).toList != t575.toList) = false := bne_eq_false_iff_eq.mpr c18
           clear c18
           obtain rfl := Option.some.inj H
           have p576 : 0 ≤ (x11_3 : Int) := ae_
           have q576 : x11_3 < (x8_2.length : Int) := ae_
           obtain ⟨ad576, e576, hx576_0⟩ := Kd.at_string (Kd.R_reads' HO_8.out).2.2 x11_3 p576 q576
           obtain rfl : ad574 = ad576 := (by injection e576)
           replace p576 := eq_true p576
           replace q576 := eq_true q576
           go_wp2
           go_ret
           exact ⟨er_, below_step HB0.out bl_⟩
          rw [if_neg c18] at H
          have c18b0 : ((rdOf ByteArray.empty x8_2 x11_3).toList == t575.toList) = false := beq_eq_false_iff_ne.mpr c18
          have c18b1 : ((rdOf ByteArray.empty x8_2 x11_3).toList != t575.toList) = true := bne_iff_ne.mpr c18
          have H' := Aside0.mk H
          clear H
          have p576 : 0 ≤ (x11_3 : Int) := ae_
          have q576 : x11_3 < (x8_2.length : Int) := ae_
          obtain ⟨ad576, e576, hx576_0⟩ := Kd.at_string (Kd.R_reads' HO_8.out).2.2 x11_3 p576 q576
          obtain rfl : ad574 = ad576 := (by injection e576)
          replace p576 := eq_true p576
          replace q576 := eq_true q576
          go_wp2
          go_roundg k3
          case measure => have := HK1.out; have := HK2.out; have := HK3.out; omega
          case rel => exact ⟨(wrap64 (x11_3 + 1)), vq_, H', ⟨by have := HK1.out; have := HK2.out; have := HK3.out; omega⟩, ⟨mv_ HO_8.out⟩, ⟨bl_⟩⟩
         rw [if_neg c15] at H
         have c15b0 : decide (x11_3 ≤ x9_2) = false := decide_eq_false c15
         clear c15
         revert H; refine nc_ fun c19 H => ?_
         have LMc19 := Aside0.mk c19
         clear c19
         generalize e_ : (x8_2 ++ [t575] : List ByteArray) = y577 at H
         have Ny577 := Aside0.mk e_.symm
         clear e_
         have H' := Aside0.mk H
         clear H
         go_wp2_with (first | ((with_reducible refine gate_builtin (b := .append) (xs := #[.tmp 51, .tmp 53]) rfl ?_); at_builtin; refine Kd.R_append Kd.string (w0 := w3) w3.heap.size rfl (.tmp 51) (.tmp 53) 22 9 (.string ⟨#[]⟩) 16 rfl Tryz.underlying22 info9 rfl (by decide) (by omega) (.slice (some ad574) x8_2.length co13) x8_2 t575 [.string t575] (fun _ => True) (fun _ => False) rfl rfl ?aP (fun _ hk => hk.elim) ?aF ?aO ?aB ?aS ?aL ?_; (case aP => exact rfl); (case aB => exact bl_); (case aF => exact (fun _ _ => trivial)); (case aO => exact (mv_ HO_8.out)); (case aS => exact (below_size bl_)); (case aL => have := LMc19.out; omega); intro v578 w20 ho hb hg hat; rw [← Ny577.out] at ho; have HO579 := Aside0.mk (ho); replace HB := Aside0.mk (hb); clear HO_8; clear ho hb hg hat))
         go_roundg k3
         case measure => have := HK1.out; have := HK2.out; have := HK3.out; omega
         case rel => exact ⟨(y577), (wrap64 (x9_2 + 1)), vq_, H', ⟨by have := HK1.out; have := HK2.out; have := HK3.out; omega⟩, ⟨mv_ HO579.out⟩, ⟨bl_⟩⟩
      rw [if_neg c9] at H
      have c9b0 : decide (x9_2 < 15) = false := decide_eq_false c9
      clear c9
      have H' := Aside0.mk H
      clear H
      go_wp2
      go_roundg k2
      case measure => have := HK1.out; have := HK2.out; omega
      case rel => exact ⟨(wrap64 (x7_1 + 1)), vq_, H', ⟨by have := HK1.out; have := HK2.out; omega⟩, ⟨bl_⟩⟩
   rw [if_neg c4] at H
   have c4b0 : decide (x7_1 < (t563.length : Int)) = false := decide_eq_false c4
   clear c4
   obtain rfl := Option.some.inj H
   go_wp2
   go_ret
   exact ⟨er_, below_step HB0.out bl_⟩


/-! ### Uq = palaverref05_Excused: function 13 -/
def Uq.f (k : Nat) (l0 : List ByteArray) (a1 : ByteArray) : Option (Bool) := (Jf.f k l0).bind fun t490 => (if t490 = true then (some true) else ((Jj.f k a1).bind fun t491 => (some t491)))
set_option maxHeartbeats 64000000 in
set_option maxRecDepth 100000 in
theorem Uq.calls (k : Nat) (A0 : Option Addr) (c0 : Nat) (l0 : List ByteArray) (a1 : ByteArray) (r : Bool) (w : World) (hr0 : Kd.C Kd.string w A0 l0.length l0) (hc0 : l0.length ≤ c0) (h : Uq.f k l0 a1 = some r) :
 Calls Tryz.prog 13 #[.slice A0 l0.length c0, .string a1] w fun e w' => e = .returned (.bool r) ∧ Below w.heap.size w w' := by
 have HR0 := Aside0.mk hr0
 have HC0 := Aside0.mk hc0
 clear hr0 hc0
 have HB := Aside0.mk (Below.refl w.heap.size w)
 have H : ((Jf.f k l0).bind fun t490 => (if t490 = true then (some true) else ((Jj.f k a1).bind fun t491 => (some t491)))) = some r := h
 clear h
 revert H; refine oa_ fun t490 A3 H => ?_
 by_cases c4 : t490 = true
 ·subst c4
  have H1 : (some true) = some r := by rw [if_pos rfl] at H; exact H
  clear H
  have H := H1
  clear H1
  obtain rfl := Option.some.inj H
  go_enter Tryz.func13, Tryz.ntmps13
  go_wp2_with (first | ((with_reducible refine gate_callee (f := 36) rfl ?_); refine gL_ 6 Tryz.func36 #[.slice A0 l0.length c0] ?_; (with_reducible refine (Jf.calls k _ _ l0 true _ ?side1 ?side2 A3.out).mono ?_); (case side1 => repeat (first | exact HR0.out | (with_reducible refine Kd.C_alloc ?_ _) | (with_reducible refine Kd.C_drewN ?_ _) | (with_reducible refine Kd.C_drew ?_))); (case side2 => exact HC0.out); rintro e w5 ⟨rfl, hb⟩; refine ⟨_, rfl, ?_⟩; replace HB := Aside0.mk (below_step bl_ hb); clear hb))
  go_ret
  exact ⟨er_, bl_⟩
 replace c4 := Bool.eq_false_iff.mpr c4
 subst c4
 have H1 : ((Jj.f k a1).bind fun t491 => (some t491)) = some r := by rw [if_neg (show ¬ (false = true) by decide)] at H; exact H
 clear H
 have H := H1
 clear H1
 revert H; refine oa_ fun t491 A6 H => ?_
 obtain rfl := Option.some.inj H
 go_enter Tryz.func13, Tryz.ntmps13
 go_wp2_with (first | ((with_reducible refine gate_callee (f := 36) rfl ?_); refine gL_ 6 Tryz.func36 #[.slice A0 l0.length c0] ?_; (with_reducible refine (Jf.calls k _ _ l0 false _ ?side1 ?side2 A3.out).mono ?_); (case side1 => repeat (first | exact HR0.out | (with_reducible refine Kd.C_alloc ?_ _) | (with_reducible refine Kd.C_drewN ?_ _) | (with_reducible refine Kd.C_drew ?_))); (case side2 => exact HC0.out); rintro e w7 ⟨rfl, hb⟩; refine ⟨_, rfl, ?_⟩; replace HB := Aside0.mk (below_step bl_ hb); clear hb) | (go_at_call 37; (with_reducible refine (Jj.calls k a1 t491 _ A6.out).mono ?_); rintro e w8 ⟨rfl, hb⟩; replace HB := Aside0.mk (below_step bl_ hb); clear hb))
 go_ret
 exact ⟨er_, bl_⟩

/-! ### U0 = palaverref05_Both: function 14 -/
def U0.f (l0 : List ByteArray) (l1 : List ByteArray) : Option (List ByteArray) := if ([] : List ByteArray).length + l0.length < 8796093022208 then ((some (([] : List ByteArray) ++ l0 : List ByteArray)).bind fun y492 => (if y492.length + l1.length < 8796093022208 then (some (y492 ++ l1)) else (none))) else (none)
set_option maxHeartbeats 64000000 in
set_option maxRecDepth 100000 in
theorem U0.calls (A0 : Option Addr) (c0 : Nat) (l0 : List ByteArray) (A1 : Option Addr) (c1 : Nat) (l1 : List ByteArray) (r : List ByteArray) (w : World) (hr0 : Kd.C Kd.string w A0 l0.length l0) (hc0 : l0.length ≤ c0) (hr1 : Kd.C Kd.string w A1 l1.length l1) (hc1 : l1.length ≤ c1) (h : U0.f l0 l1 = some r) :
 Calls Tryz.prog 14 #[.slice A0 l0.length c0, .slice A1 l1.length c1] w fun e w' => ∃ v0_ : Value, e = .returned (v0_) ∧ Kd.R Kd.string 9 w' w.heap.size (fun _ => True) v0_ r ∧ Below w.heap.size w w' := by
 have HR0 := Aside0.mk hr0
 have HC0 := Aside0.mk hc0
 clear hr0 hc0
 have HR1 := Aside0.mk hr1
 have HC1 := Aside0.mk hc1
 clear hr1 hc1
 have HB := Aside0.mk (Below.refl w.heap.size w)
 have H : (if ([] : List ByteArray).length + l0.length < 8796093022208 then ((some (([] : List ByteArray) ++ l0 : List ByteArray)).bind fun y492 => (if y492.length + l1.length < 8796093022208 then (some (y492 ++ l1)) else (none))) else (none)) = some r := h
 clear h
 revert H; refine nc_ fun c3 => oy_ fun y492 Ny492 => nc_ fun c4 H => ?_
 have LMc3 := Aside0.mk c3
 have LMc4 := Aside0.mk c4
 clear c3 c4
 generalize e_ : (y492 ++ l1 : List ByteArray) = y495 at H
 have Ny495 := Aside0.mk e_.symm
 clear e_
 obtain rfl := Option.some.inj H
 go_enter Tryz.func14, Tryz.ntmps14
 go_wp2_with (first | ((with_reducible refine gate_builtin (b := .append) (xs := #[.tmp 6, .tmp 7]) rfl ?_); at_builtin; refine Kd.R_append_rows Kd.string (w0 := w) w.heap.size rfl (.tmp 6) (.tmp 7) 22 9 (.string ⟨#[]⟩) 16 rfl Tryz.underlying22 info9 rfl (by decide) (by omega) (.slice none 0 0) ([] : List ByteArray) l0 _ _ _ (fun _ => True) (fun _ => False) rfl rfl ?aO ?aR (fun _ _ h => h) (fun _ h => h.elim) ?aF ?aB ?aS ?aL ?_; (case aR => repeat (first | exact HR0.out | (with_reducible refine Kd.C_alloc ?_ _) | (with_reducible refine Kd.C_drewN ?_ _) | (with_reducible refine Kd.C_drew ?_))); (case aB => exact bl_); (case aF => exact (fun _ _ => trivial)); (case aO => exact ((Kd.R_nil _ _ _ _ (fun _ => True)))); (case aS => exact (below_size bl_)); (case aL => have := LMc3.out; omega); intro v493 w5 ho hb hg hat; rw [← Ny492.out] at ho; have HO494 := Aside0.mk (ho); replace HB := Aside0.mk (hb); clear ho hb hg hat) | ((with_reducible refine gate_builtin (b := .append) (xs := #[.tmp 9, .tmp 10]) rfl ?_); at_builtin; refine Kd.R_append_rows Kd.string (w0 := w) w.heap.size rfl (.tmp 9) (.tmp 10) 22 9 (.string ⟨#[]⟩) 16 rfl Tryz.underlying22 info9 rfl (by decide) (by omega) v493 y492 l1 _ _ _ (fun _ => True) (fun _ => False) rfl rfl ?aO ?aR (fun _ _ h => h) (fun _ h => h.elim) ?aF ?aB ?aS ?aL ?_; (case aR => repeat (first | exact (Kd.C_below HR1.out HB.out) | (with_reducible refine Kd.C_alloc ?_ _) | (with_reducible refine Kd.C_drewN ?_ _) | (with_reducible refine Kd.C_drew ?_))); (case aB => exact bl_); (case aF => exact (fun _ _ => trivial)); (case aO => exact (mv_ HO494.out)); (case aS => exact (below_size bl_)); (case aL => have := LMc4.out; omega); intro v496 w6 ho hb hg hat; rw [← Ny495.out] at ho; have HO497 := Aside0.mk (ho); replace HB := Aside0.mk (hb); clear HO494; clear ho hb hg hat))
 go_ret
 exact ⟨_, er_, mv_ HO497.out, bl_⟩

-- NOT PRINTED: function 3 (palaverlaw06_EventTurned)

end Go.Proofs.YtdodghifojkclaaGreatDoor.PP
