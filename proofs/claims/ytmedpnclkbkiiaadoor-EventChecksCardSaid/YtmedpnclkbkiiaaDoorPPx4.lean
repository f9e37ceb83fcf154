-- WRITTEN BY a program of this work (wip/ownprint.py), for this seat
import Derived.Test.YtmedpnclkbkiiaaDoorPPx0
import Derived.Test.YtmedpnclkbkiiaaDoorPPx2
import Derived.Test.YtmedpnclkbkiiaaDoorPPx3
namespace Go.Proofs.YtmedpnclkbkiiaaDoor.PP
open Go.RowKit Go.Proofs.YtmedpnclkbkiiaaDoorW.PrintWords Go.Proofs.YtmedpnclkbkiiaaDoorW.PrintLast Go.Proofs.YtmedpnclkbkiiaaDoorW.PrintMore
attribute [local go_sem] max2_int min2_int max_two min_two max_three min_three max_four min_four   -- for this text's walks alone
set_option linter.unusedVariables false
set_option linter.unusedSimpArgs false

/-! ### palaverref05_Named: function 58 -/
def palaverref05_Named.f (k : Nat) (a0 : Int) (a1 : ByteArray) : Option (ByteArray) := (palaverref01_Number.f k a0 1).bind fun bt353 => ((palaverref02_Tag.f k 5 (([bt353.1, a1] : List ByteArray))).bind fun t358 => (some t358))
theorem palaverref05_Named.mono : ∀ a0 a1 k, LeO (palaverref05_Named.f k a0 a1) (palaverref05_Named.f (k + 1) a0 a1) := by
 intro a0 a1 k
 unfold palaverref05_Named.f
 repeat' first
  | (with_reducible exact palaverref01_Number.mono _ _ _)
  | (with_reducible exact palaverref02_Tag.mono _ _ _)
  | (with_reducible exact LeO.refl _)
  | (with_reducible exact LeO.none _)
  | (with_reducible refine LeO.ite ?_ ?_)
  | (with_reducible refine LeO.bind ?_ (fun _ => ?_))
  | exact palaverref01_Number.mono _ _ _
  | exact palaverref02_Tag.mono _ _ _
  | exact LeO.none _
  | refine LeO.ite ?_ ?_
  | refine LeO.bind ?_ (fun _ => ?_)
set_option maxHeartbeats 64000000 in
set_option maxRecDepth 100000 in
theorem palaverref05_Named.calls (k : Nat) (a0 : Int) (a1 : ByteArray) (r : ByteArray) (w : World) (h : palaverref05_Named.f k a0 a1 = some r) :
 Calls Tryd.prog 58 #[.int .i64 a0, .string a1] w fun e w' => e = .returned (.string r) ∧ Below w.heap.size w w' := by
 have HB := Aside0.mk (Below.refl w.heap.size w)
 have H : ((palaverref01_Number.f k a0 1).bind fun bt353 => ((palaverref02_Tag.f k 5 (([bt353.1, a1] : List ByteArray))).bind fun t358 => (some t358))) = some r := h
 clear h
 replace H := ob_ H
 obtain ⟨⟨t353, t354⟩, A30, H⟩ := H
 replace H : ((palaverref02_Tag.f k 5 (([t353, a1] : List ByteArray))).bind fun t358 => (some t358)) = some r := H
 have A3 := Aside0.mk A30
 clear A30
 generalize e_ : (([t353, a1] : List ByteArray) : List ByteArray) = y355 at H
 have Ny355 := Aside0.mk e_.symm
 clear e_
 revert H; refine oa_ fun t358 A4 H => ?_
 obtain rfl := Option.some.inj H
 go_enter Tryd.func58, Tryd.ntmps58
 go_wp2_with (first | ((with_reducible refine gate_callee (f := 47) rfl ?_); refine gL_ 9 Tryd.func47 #[.int .i64 a0, .int .i64 1] ?_; (with_reducible refine (palaverref01_Number.calls k a0 1 t353 t354 _ A3.out).mono ?_); rintro e w5 ⟨rfl, hb⟩; refine ⟨_, rfl, ?_⟩; replace HB := Aside0.mk (below_step bl_ hb); clear hb) | ((with_reducible refine gate_dst (N := 14) rfl ?_); refine Kd.R_lit Kd.string _ 9 ?hg (N := 14) ?hd (xs := ([t353, a1] : List ByteArray)) (inner := [.string t353, .string a1]) (ok := fun _ => True) (okp := fun _ => True) ?hr ?hp (fun _ hk => hk) trivial (Below.refl _ _) (Nat.le_refl _) (by simp) ?_; (case hd => rfl); (case hg => rfl); (case hr => exact gr_); (case hp => exact (Reps.one (show Kd.M Kd.string _ _ _ t353 [.string t353] from rfl) (Reps.one (show Kd.M Kd.string _ _ _ a1 [.string a1] from rfl) (Reps.none _ _)))); intro v356 w6 ho7 hb hg_ hnew_; clear hg_ hnew_; (first | rw [← Ny355.out] at ho7 | (simp only [Int.reduceToNat] at ho7; rw [← Ny355.out] at ho7)); have HO357 := Aside0.mk (Kd.R_lower ho7 (below_size bl_)); replace HB := Aside0.mk (below_step bl_ hb); clear hb ho7; obtain ⟨Ao8, co8, eo8⟩ := Kd.R_slice HO357.out; subst eo8) | ((with_reducible refine gate_callee (f := 37) rfl ?_); refine gL_ 15 Tryd.func37 #[.int .i64 5, .slice Ao8 y355.length co8] ?_; (with_reducible refine (palaverref02_Tag.calls k 5 _ _ y355 t358 _ ?side1 ?side2 A4.out).mono ?_); (case side1 => repeat (first | exact (Kd.R_reads' HO357.out).2.2 | (with_reducible refine Kd.C_alloc ?_ _) | (with_reducible refine Kd.C_drewN ?_ _) | (with_reducible refine Kd.C_drew ?_))); (case side2 => exact (Kd.R_reads' HO357.out).2.1); rintro e w9 ⟨rfl, hb⟩; refine ⟨_, rfl, ?_⟩; replace HB := Aside0.mk (below_step bl_ hb); replace HO357 := Aside0.mk (Kd.R_below (mv_ HO357.out) hb); clear hb))
 go_ret
 exact ⟨er_, bl_⟩

/-! ### palaverref05_Verify: function 38 -/
def palaverref05_Verify.f (k : Nat) (a0 : ByteArray) (a1 : ByteArray) (a2 : ByteArray) : Option (Bool × List ByteArray) := (palaverref05_Parts.f k a2).bind fun bt359 => (if bt359.2.2.2 = true then ((palaverref02_Tag.f k 6 (([a1] : List ByteArray))).bind fun t370 => ((palaverref03_Recover.f k t370 bt359.2.1).bind fun bt371 => ((palaverref04_Fold.f k bt371.1 bt359.1 bt359.2.2.1).bind fun bt375 => ((palaverref01_Number.f k (bt359.2.2.1.length : Int) 1).bind fun bt380 => (if bt371.2.length + bt375.2.1.length < 8796093022208 then ((some (bt371.2 ++ bt375.2.1 : List ByteArray)).bind fun y382 => ((palaverref02_Input.f k 5 (([bt380.1, bt375.1] : List ByteArray))).bind fun t388 => ((palaverref02_Input.f k 6 (([a1] : List ByteArray))).bind fun t392 => ((some (([t388, t392] : List ByteArray) : List ByteArray)).bind fun y393 => (if y382.length + y393.length < 8796093022208 then ((palaverref05_Named.f k (bt359.2.2.1.length : Int) bt375.1).bind fun t399 => (some ((t399.toList == a0.toList), (y382 ++ y393)))) else (none)))))) else (none)))))) else (some (false, ([] : List ByteArray))))
theorem palaverref05_Verify.mono : ∀ a0 a1 a2 k, LeO (palaverref05_Verify.f k a0 a1 a2) (palaverref05_Verify.f (k + 1) a0 a1 a2) := by
 intro a0 a1 a2 k
 unfold palaverref05_Verify.f
 repeat' first
  | (with_reducible exact palaverref01_Number.mono _ _ _)
  | (with_reducible exact palaverref02_Input.mono _ _ _)
  | (with_reducible exact palaverref02_Tag.mono _ _ _)
  | (with_reducible exact palaverref03_Recover.mono _ _ _)
  | (with_reducible exact palaverref04_Fold.mono _ _ _ _)
  | (with_reducible exact palaverref05_Named.mono _ _ _)
  | (with_reducible exact palaverref05_Parts.mono _ _)
  | (with_reducible exact LeO.refl _)
  | (with_reducible exact LeO.none _)
  | (with_reducible refine LeO.ite ?_ ?_)
  | (with_reducible refine LeO.bind ?_ (fun _ => ?_))
  | exact palaverref01_Number.mono _ _ _
  | exact palaverref02_Input.mono _ _ _
  | exact palaverref02_Tag.mono _ _ _
  | exact palaverref03_Recover.mono _ _ _
  | exact palaverref04_Fold.mono _ _ _ _
  | exact palaverref05_Named.mono _ _ _
  | exact palaverref05_Parts.mono _ _
  | exact LeO.none _
  | refine LeO.ite ?_ ?_
  | refine LeO.bind ?_ (fun _ => ?_)
set_option maxHeartbeats 64000000 in
set_option maxRecDepth 100000 in
theorem palaverref05_Verify.calls (k : Nat) (a0 : ByteArray) (a1 : ByteArray) (a2 : ByteArray) (r1 : Bool) (r2 : List ByteArray) (w : World) (h : palaverref05_Verify.f k a0 a1 a2 = some (r1, r2)) :
 Calls Tryd.prog 38 #[.string a0, .string a1, .string a2] w fun e w' => ∃ v1_ : Value, e = .returned (.tuple #[.bool r1, v1_]) ∧ Kd.R Kd.string 9 w' w.heap.size (fun _ => True) v1_ r2 ∧ Below w.heap.size w w' := by
 have HB := Aside0.mk (Below.refl w.heap.size w)
 have H : ((palaverref05_Parts.f k a2).bind fun bt359 => (if bt359.2.2.2 = true then ((palaverref02_Tag.f k 6 (([a1] : List ByteArray))).bind fun t370 => ((palaverref03_Recover.f k t370 bt359.2.1).bind fun bt371 => ((palaverref04_Fold.f k bt371.1 bt359.1 bt359.2.2.1).bind fun bt375 => ((palaverref01_Number.f k (bt359.2.2.1.length : Int) 1).bind fun bt380 => (if bt371.2.length + bt375.2.1.length < 8796093022208 then ((some (bt371.2 ++ bt375.2.1 : List ByteArray)).bind fun y382 => ((palaverref02_Input.f k 5 (([bt380.1, bt375.1] : List ByteArray))).bind fun t388 => ((palaverref02_Input.f k 6 (([a1] : List ByteArray))).bind fun t392 => ((some (([t388, t392] : List ByteArray) : List ByteArray)).bind fun y393 => (if y382.length + y393.length < 8796093022208 then ((palaverref05_Named.f k (bt359.2.2.1.length : Int) bt375.1).bind fun t399 => (some ((t399.toList == a0.toList), (y382 ++ y393)))) else (none)))))) else (none)))))) else (some (false, ([] : List ByteArray))))) = some (r1, r2) := h
 clear h
 replace H := ob_ H
 obtain ⟨⟨t359, t360, t361, t362⟩, A40, H⟩ := H
 replace H : (if t362 = true then ((palaverref02_Tag.f k 6 (([a1] : List ByteArray))).bind fun t370 => ((palaverref03_Recover.f k t370 t360).bind fun bt371 => ((palaverref04_Fold.f k bt371.1 t359 t361).bind fun bt375 => ((palaverref01_Number.f k (t361.length : Int) 1).bind fun bt380 => (if bt371.2.length + bt375.2.1.length < 8796093022208 then ((some (bt371.2 ++ bt375.2.1 : List ByteArray)).bind fun y382 => ((palaverref02_Input.f k 5 (([bt380.1, bt375.1] : List ByteArray))).bind fun t388 => ((palaverref02_Input.f k 6 (([a1] : List ByteArray))).bind fun t392 => ((some (([t388, t392] : List ByteArray) : List ByteArray)).bind fun y393 => (if y382.length + y393.length < 8796093022208 then ((palaverref05_Named.f k (t361.length : Int) bt375.1).bind fun t399 => (some ((t399.toList == a0.toList), (y382 ++ y393)))) else (none)))))) else (none)))))) else (some (false, ([] : List ByteArray)))) = some (r1, r2) := H
 have A4 := Aside0.mk A40
 clear A40
 by_cases c5 : t362 = true
 ·subst c5
  have H1 : ((palaverref02_Tag.f k 6 (([a1] : List ByteArray))).bind fun t370 => ((palaverref03_Recover.f k t370 t360).bind fun bt371 => ((palaverref04_Fold.f k bt371.1 t359 t361).bind fun bt375 => ((palaverref01_Number.f k (t361.length : Int) 1).bind fun bt380 => (if bt371.2.length + bt375.2.1.length < 8796093022208 then ((some (bt371.2 ++ bt375.2.1 : List ByteArray)).bind fun y382 => ((palaverref02_Input.f k 5 (([bt380.1, bt375.1] : List ByteArray))).bind fun t388 => ((palaverref02_Input.f k 6 (([a1] : List ByteArray))).bind fun t392 => ((some (([t388, t392] : List ByteArray) : List ByteArray)).bind fun y393 => (if y382.length + y393.length < 8796093022208 then ((palaverref05_Named.f k (t361.length : Int) bt375.1).bind fun t399 => (some ((t399.toList == a0.toList), (y382 ++ y393)))) else (none)))))) else (none)))))) = some (r1, r2) := by rw [if_pos rfl] at H; exact H
  clear H
  have H := H1
  clear H1
  obtain ⟨y367, hy367⟩ : ∃ y_ : List ByteArray, y_ = (([a1] : List ByteArray)) := ⟨_, rfl⟩
  replace H : ((palaverref02_Tag.f k 6 y367).bind fun t370 => ((palaverref03_Recover.f k t370 t360).bind fun bt371 => ((palaverref04_Fold.f k bt371.1 t359 t361).bind fun bt375 => ((palaverref01_Number.f k (t361.length : Int) 1).bind fun bt380 => (if bt371.2.length + bt375.2.1.length < 8796093022208 then ((some (bt371.2 ++ bt375.2.1 : List ByteArray)).bind fun y382 => ((palaverref02_Input.f k 5 (([bt380.1, bt375.1] : List ByteArray))).bind fun t388 => ((palaverref02_Input.f k 6 (([a1] : List ByteArray))).bind fun t392 => ((some (([t388, t392] : List ByteArray) : List ByteArray)).bind fun y393 => (if y382.length + y393.length < 8796093022208 then ((palaverref05_Named.f k (t361.length : Int) bt375.1).bind fun t399 => (some ((t399.toList == a0.toList), (y382 ++ y393)))) else (none)))))) else (none)))))) = some (r1, r2) := by first | (rw [hy367]; with_reducible exact H) | (have H2_ := (Option.bind_some _ _).symm.trans H; rw [hy367]; with_reducible exact H2_) | (have H2_ := (Option.bind_some _ _).symm.trans H; with_reducible exact H2_) | with_reducible exact H | (rw [hy367]; exact H) | exact H
  have Ny367 := Aside0.mk hy367
  clear hy367
  revert H; refine oa_ fun t370 A6 H => ?_
  replace H := ob_ H
  obtain ⟨⟨t371, t372⟩, A70, H⟩ := H
  replace H : ((palaverref04_Fold.f k t371 t359 t361).bind fun bt375 => ((palaverref01_Number.f k (t361.length : Int) 1).bind fun bt380 => (if t372.length + bt375.2.1.length < 8796093022208 then ((some (t372 ++ bt375.2.1 : List ByteArray)).bind fun y382 => ((palaverref02_Input.f k 5 (([bt380.1, bt375.1] : List ByteArray))).bind fun t388 => ((palaverref02_Input.f k 6 (([a1] : List ByteArray))).bind fun t392 => ((some (([t388, t392] : List ByteArray) : List ByteArray)).bind fun y393 => (if y382.length + y393.length < 8796093022208 then ((palaverref05_Named.f k (t361.length : Int) bt375.1).bind fun t399 => (some ((t399.toList == a0.toList), (y382 ++ y393)))) else (none)))))) else (none)))) = some (r1, r2) := H
  have A7 := Aside0.mk A70
  clear A70
  replace H := ob_ H
  obtain ⟨⟨t375, t376, t377⟩, A80, H⟩ := H
  replace H : ((palaverref01_Number.f k (t361.length : Int) 1).bind fun bt380 => (if t372.length + t376.length < 8796093022208 then ((some (t372 ++ t376 : List ByteArray)).bind fun y382 => ((palaverref02_Input.f k 5 (([bt380.1, t375] : List ByteArray))).bind fun t388 => ((palaverref02_Input.f k 6 (([a1] : List ByteArray))).bind fun t392 => ((some (([t388, t392] : List ByteArray) : List ByteArray)).bind fun y393 => (if y382.length + y393.length < 8796093022208 then ((palaverref05_Named.f k (t361.length : Int) t375).bind fun t399 => (some ((t399.toList == a0.toList), (y382 ++ y393)))) else (none)))))) else (none))) = some (r1, r2) := H
  have A8 := Aside0.mk A80
  clear A80
  replace H := ob_ H
  obtain ⟨⟨t380, t381⟩, A90, H⟩ := H
  replace H : (if t372.length + t376.length < 8796093022208 then ((some (t372 ++ t376 : List ByteArray)).bind fun y382 => ((palaverref02_Input.f k 5 (([t380, t375] : List ByteArray))).bind fun t388 => ((palaverref02_Input.f k 6 (([a1] : List ByteArray))).bind fun t392 => ((some (([t388, t392] : List ByteArray) : List ByteArray)).bind fun y393 => (if y382.length + y393.length < 8796093022208 then ((palaverref05_Named.f k (t361.length : Int) t375).bind fun t399 => (some ((t399.toList == a0.toList), (y382 ++ y393)))) else (none)))))) else (none)) = some (r1, r2) := H
  have A9 := Aside0.mk A90
  clear A90
  revert H; refine nc_ fun c10 => oy_ fun y382 Ny382 H => ?_
  have LMc10 := Aside0.mk c10
  clear c10
  generalize e_ : (([t380, t375] : List ByteArray) : List ByteArray) = y385 at H
  have Ny385 := Aside0.mk e_.symm
  clear e_
  revert H; refine oa_ fun t388 A11 H => ?_
  generalize e_ : (([a1] : List ByteArray) : List ByteArray) = y389 at H
  have Ny389 := Aside0.mk e_.symm
  clear e_
  revert H; refine oa_ fun t392 A12 => oy_ fun y393 Ny393 => nc_ fun c13 H => ?_
  have LMc13 := Aside0.mk c13
  clear c13
  generalize e_ : (y382 ++ y393 : List ByteArray) = y396 at H
  have Ny396 := Aside0.mk e_.symm
  clear e_
  revert H; refine oa_ fun t399 A14 H => ?_
  simp only [Option.some.injEq, Prod.mk.injEq] at H
  obtain ⟨rfl, rfl⟩ := H
  go_enter Tryd.func38, Tryd.ntmps38
  go_wp2_with (first | ((with_reducible refine gate_callee (f := 55) rfl ?_); refine gL_ 21 Tryd.func55 #[.string a2] ?_; (with_reducible refine (palaverref05_Parts.calls k a2 t359 t360 t361 true _ A4.out).mono ?_); rintro e w15 ⟨P1_, P2_, q1_, q2_, rfl, hc1_, hq1_, hc2_, hq2_, hb⟩; refine ⟨_, rfl, ?_⟩; have Q1_ := Aside0.mk hq1_; have Q2_ := Aside0.mk hq2_; replace HB := Aside0.mk (below_step bl_ hb); have HO366 := Aside0.mk hc2_; have HO364 := Aside0.mk hc1_; clear hb; clear hc1_ hq1_ hc2_ hq2_) | ((with_reducible refine gate_dst (N := 30) rfl ?_); refine Kd.R_lit Kd.string _ 9 ?hg (N := 30) ?hd (xs := ([a1] : List ByteArray)) (inner := [.string a1]) (ok := fun _ => True) (okp := fun _ => True) ?hr ?hp (fun _ hk => hk) trivial (Below.refl _ _) (Nat.le_refl _) (by simp) ?_; (case hd => rfl); (case hg => rfl); (case hr => exact gr_); (case hp => exact (Reps.one (show Kd.M Kd.string _ _ _ a1 [.string a1] from rfl) (Reps.none _ _))); intro v368 w16 ho17 hb hg_ hnew_; clear hg_ hnew_; (first | rw [← Ny367.out] at ho17 | (simp only [Int.reduceToNat] at ho17; rw [← Ny367.out] at ho17)); have HO369 := Aside0.mk (Kd.R_lower ((ho17)) (below_size bl_)); replace HB := Aside0.mk (below_step bl_ hb); replace HO366 := Aside0.mk (Kd.C_below (by (with_reducible repeat (first | apply Kd.C_alloc | apply Kd.C_drewN | apply Kd.C_drew)); exact HO366.out) hb); replace HO364 := Aside0.mk (Kd.C_below (by (with_reducible repeat (first | apply Kd.C_alloc | apply Kd.C_drewN | apply Kd.C_drew)); exact HO364.out) hb); clear hb ho17; obtain ⟨Ao18, co18, eo18⟩ := Kd.R_slice HO369.out; subst eo18) | ((with_reducible refine gate_callee (f := 37) rfl ?_); refine gL_ 31 Tryd.func37 #[.int .i64 6, .slice Ao18 y367.length co18] ?_; (with_reducible refine (palaverref02_Tag.calls k 6 _ _ y367 t370 _ ?side1 ?side2 A6.out).mono ?_); (case side1 => repeat (first | exact (Kd.R_reads' HO369.out).2.2 | (with_reducible refine Kd.C_alloc ?_ _) | (with_reducible refine Kd.C_drewN ?_ _) | (with_reducible refine Kd.C_drew ?_))); (case side2 => exact (Kd.R_reads' HO369.out).2.1); rintro e w19 ⟨rfl, hb⟩; refine ⟨_, rfl, ?_⟩; replace HB := Aside0.mk (below_step bl_ hb); replace HO369 := Aside0.mk (Kd.R_below (mv_ HO369.out) hb); replace HO366 := Aside0.mk (Kd.C_below (by (with_reducible repeat (first | apply Kd.C_alloc | apply Kd.C_drewN | apply Kd.C_drew)); exact HO366.out) hb); replace HO364 := Aside0.mk (Kd.C_below (by (with_reducible repeat (first | apply Kd.C_alloc | apply Kd.C_drewN | apply Kd.C_drew)); exact HO364.out) hb); clear hb) | ((with_reducible refine gate_callee (f := 56) rfl ?_); refine gL_ 33 Tryd.func56 #[.string t370, .slice P1_ t360.length q1_] ?_; (with_reducible refine (palaverref03_Recover.calls k t370 _ _ t360 t371 t372 _ ?side1 ?side2 A7.out).mono ?_); (case side1 => repeat (first | exact HO364.out | (with_reducible refine Kd.C_alloc ?_ _) | (with_reducible refine Kd.C_drewN ?_ _) | (with_reducible refine Kd.C_drew ?_))); (case side2 => exact Q1_.out); rintro e w21 ⟨v373, rfl, ho0, hb⟩; refine ⟨_, rfl, ?_⟩; have HO374 := Aside0.mk (Kd.R_lower (Kd.R_new' ((ho0)) (Kd.R_lt (mv_ HO369.out))) (below_size bl_)); replace HB := Aside0.mk (below_step bl_ hb); replace HO369 := Aside0.mk (Kd.R_elder' (mv_ HO369.out) (Kd.R_base ho0) hb); replace HO366 := Aside0.mk (Kd.C_below (by (with_reducible repeat (first | apply Kd.C_alloc | apply Kd.C_drewN | apply Kd.C_drew)); exact HO366.out) hb); replace HO364 := Aside0.mk (Kd.C_below (by (with_reducible repeat (first | apply Kd.C_alloc | apply Kd.C_drewN | apply Kd.C_drew)); exact HO364.out) hb); clear hb ho0) | ((with_reducible refine gate_callee (f := 57) rfl ?_); refine gL_ 40 Tryd.func57 #[.string t371, .int .i64 t359, .slice P2_ t361.length q2_] ?_; (with_reducible refine (palaverref04_Fold.calls k t371 t359 _ _ t361 t375 t376 t377 _ ?side1 ?side2 A8.out).mono ?_); (case side1 => repeat (first | exact HO366.out | (with_reducible refine Kd.C_alloc ?_ _) | (with_reducible refine Kd.C_drewN ?_ _) | (with_reducible refine Kd.C_drew ?_))); (case side2 => exact Q2_.out); rintro e w23 ⟨v378, rfl, ho0, hb⟩; refine ⟨_, rfl, ?_⟩; have n2_ := Aside0.mk (Kd.R_elder' (mv_ HO369.out) (Kd.R_base ho0) hb); have n3_ := Aside0.mk (Kd.R_elder' (mv_ HO374.out) (Kd.R_base ho0) hb); have n4_ := Aside0.mk (Kd.R_lower (Kd.R_new' (Kd.R_new' ((ho0)) (Kd.R_lt (mv_ HO369.out))) (Kd.R_lt (mv_ HO374.out))) (below_size bl_)); have n5_ := Aside0.mk (below_step bl_ hb); clear HO364; clear HO366; clear HO369; clear HO374; clear HB; have HO369 := n2_; have HO374 := n3_; have HO379 := n4_; have HB := n5_; clear n2_ n3_ n4_ n5_; clear hb ho0) | ((with_reducible refine gate_callee (f := 47) rfl ?_); refine gL_ 47 Tryd.func47 #[.int .i64 (t361.length : Int), .int .i64 1] ?_; (with_reducible refine (palaverref01_Number.calls k (t361.length : Int) 1 t380 t381 _ A9.out).mono ?_); rintro e w24 ⟨rfl, hb⟩; refine ⟨_, rfl, ?_⟩; have n2_ := Aside0.mk (Kd.R_below (mv_ HO369.out) hb); have n3_ := Aside0.mk (Kd.R_below (mv_ HO374.out) hb); have n4_ := Aside0.mk (Kd.R_below (mv_ HO379.out) hb); have n5_ := Aside0.mk (below_step bl_ hb); clear HO369; clear HO374; clear HO379; clear HB; have HO369 := n2_; have HO374 := n3_; have HO379 := n4_; have HB := n5_; clear n2_ n3_ n4_ n5_; clear hb; obtain ⟨Ao26, co26, eo26⟩ := Kd.R_slice HO379.out; subst eo26) | ((with_reducible refine gate_builtin (b := .append) (xs := #[.tmp 50, .tmp 51]) rfl ?_); at_builtin; refine Kd.R_append_rows Kd.string (w0 := w) w.heap.size rfl (.tmp 50) (.tmp 51) 22 9 (.string ⟨#[]⟩) 16 rfl Tryd.underlying22 info9 rfl (by decide) (by omega) v373 t372 t376 _ _ _ (fun k_ => some k_ ≠ (.slice Ao18 y367.length co18 : Value).ownBlock ∧ some k_ ≠ (.slice Ao26 t376.length co26 : Value).ownBlock) (fun _ => False) rfl rfl ?aO ?aR (fun _ _ h => h) (fun _ h => h.elim) ?aF ?aB ?aS ?aL ?_; (case aR => repeat (first | exact (Kd.R_reads' HO379.out).2.2 | (with_reducible refine Kd.C_alloc ?_ _) | (with_reducible refine Kd.C_drewN ?_ _) | (with_reducible refine Kd.C_drew ?_))); (case aB => exact bl_); (case aF => exact (fun k_ hk => ⟨Kd.fresh' (Kd.R_lt (mv_ HO369.out)) k_ hk, Kd.fresh' (Kd.R_lt (mv_ HO379.out)) k_ hk⟩)); (case aO => exact (by refine mv_ ?_; exact Kd.R_mono HO374.out (fun _ hk => ⟨hk.1.2, hk.2⟩))); (case aS => exact (below_size bl_)); (case aL => have := LMc10.out; omega); intro v383 w25 ho hb hg hat; rw [← Ny382.out] at ho; have n2_ := Aside0.mk (Kd.R_after (ok := (fun k_ => some k_ ≠ (.slice Ao26 t376.length co26 : Value).ownBlock)) (by refine mv_ ?_; exact Kd.R_mono HO369.out (fun _ hk => ⟨hk.2, hk.1.2⟩)) hg hat); have n3_ := Aside0.mk (Kd.R_after (ok := (fun k_ => some k_ ≠ (.slice Ao18 y367.length co18 : Value).ownBlock)) (by refine mv_ ?_; exact Kd.R_mono HO379.out (fun _ hk => ⟨hk.1.2, hk.2⟩)) hg hat); have n4_ := Aside0.mk (hb); have n5_ := Aside0.mk (ho); clear HO369; clear HO379; clear HB; clear HO374; have HO369 := n2_; have HO379 := n3_; have HB := n4_; have HO384 := n5_; clear n2_ n3_ n4_ n5_; clear ho hb hg hat) | ((with_reducible refine gate_dst (N := 56) rfl ?_); refine Kd.R_lit Kd.string _ 9 ?hg (N := 56) ?hd (xs := ([t380, t375] : List ByteArray)) (inner := [.string t380, .string t375]) (ok := fun _ => True) (okp := fun _ => True) ?hr ?hp (fun _ hk => hk) trivial (Below.refl _ _) (Nat.le_refl _) (by simp) ?_; (case hd => rfl); (case hg => rfl); (case hr => exact gr_); (case hp => exact (Reps.one (show Kd.M Kd.string _ _ _ t380 [.string t380] from rfl) (Reps.one (show Kd.M Kd.string _ _ _ t375 [.string t375] from rfl) (Reps.none _ _)))); intro v386 w27 ho28 hb hg_ hnew_; clear hg_ hnew_; (first | rw [← Ny385.out] at ho28 | (simp only [Int.reduceToNat] at ho28; rw [← Ny385.out] at ho28)); have n2_ := Aside0.mk (Kd.R_elder' (mv_ HO369.out) (Kd.R_base ho28) hb); have n3_ := Aside0.mk (Kd.R_elder' (mv_ HO379.out) (Kd.R_base ho28) hb); have n4_ := Aside0.mk (Kd.R_elder' (mv_ HO384.out) (Kd.R_base ho28) hb); have n5_ := Aside0.mk (Kd.R_lower (Kd.R_new' (Kd.R_new' (Kd.R_new' ((ho28)) (Kd.R_lt (mv_ HO369.out))) (Kd.R_lt (mv_ HO379.out))) (Kd.R_lt (mv_ HO384.out))) (below_size bl_)); have n6_ := Aside0.mk (below_step bl_ hb); clear HO369; clear HO379; clear HO384; clear HB; have HO369 := n2_; have HO379 := n3_; have HO384 := n4_; have HO387 := n5_; have HB := n6_; clear n2_ n3_ n4_ n5_ n6_; clear hb ho28; obtain ⟨Ao29, co29, eo29⟩ := Kd.R_slice HO387.out; subst eo29) | ((with_reducible refine gate_callee (f := 54) rfl ?_); refine gL_ 57 Tryd.func54 #[.int .i64 5, .slice Ao29 y385.length co29] ?_; (with_reducible refine (palaverref02_Input.calls k 5 _ _ y385 t388 _ ?side1 ?side2 A11.out).mono ?_); (case side1 => repeat (first | exact (Kd.R_reads' HO387.out).2.2 | (with_reducible refine Kd.C_alloc ?_ _) | (with_reducible refine Kd.C_drewN ?_ _) | (with_reducible refine Kd.C_drew ?_))); (case side2 => exact (Kd.R_reads' HO387.out).2.1); rintro e w30 ⟨rfl, hb⟩; refine ⟨_, rfl, ?_⟩; have n2_ := Aside0.mk (Kd.R_below (mv_ HO369.out) hb); have n3_ := Aside0.mk (Kd.R_below (mv_ HO379.out) hb); have n4_ := Aside0.mk (Kd.R_below (mv_ HO384.out) hb); have n5_ := Aside0.mk (Kd.R_below (mv_ HO387.out) hb); have n6_ := Aside0.mk (below_step bl_ hb); clear HO369; clear HO379; clear HO384; clear HO387; clear HB; have HO369 := n2_; have HO379 := n3_; have HO384 := n4_; have HO387 := n5_; have HB := n6_; clear n2_ n3_ n4_ n5_ n6_; clear hb) | ((with_reducible refine gate_dst (N := 59) rfl ?_); refine Kd.R_lit Kd.string _ 9 ?hg (N := 59) ?hd (xs := ([a1] : List ByteArray)) (inner := [.string a1]) (ok := fun _ => True) (okp := fun _ => True) ?hr ?hp (fun _ hk => hk) trivial (Below.refl _ _) (Nat.le_refl _) (by simp) ?_; (case hd => rfl); (case hg => rfl); (case hr => exact gr_); (case hp => exact (Reps.one (show Kd.M Kd.string _ _ _ a1 [.string a1] from rfl) (Reps.none _ _))); intro v390 w31 ho32 hb hg_ hnew_; clear hg_ hnew_; (first | rw [← Ny389.out] at ho32 | (simp only [Int.reduceToNat] at ho32; rw [← Ny389.out] at ho32)); have n2_ := Aside0.mk (Kd.R_elder' (mv_ HO369.out) (Kd.R_base ho32) hb); have n3_ := Aside0.mk (Kd.R_elder' (mv_ HO379.out) (Kd.R_base ho32) hb); have n4_ := Aside0.mk (Kd.R_elder' (mv_ HO384.out) (Kd.R_base ho32) hb); have n5_ := Aside0.mk (Kd.R_elder' (mv_ HO387.out) (Kd.R_base ho32) hb); have n6_ := Aside0.mk (Kd.R_lower (Kd.R_new' (Kd.R_new' (Kd.R_new' (Kd.R_new' ((ho32)) (Kd.R_lt (mv_ HO369.out))) (Kd.R_lt (mv_ HO379.out))) (Kd.R_lt (mv_ HO384.out))) (Kd.R_lt (mv_ HO387.out))) (below_size bl_)); have n7_ := Aside0.mk (below_step bl_ hb); clear HO369; clear HO379; clear HO384; clear HO387; clear HB; have HO369 := n2_; have HO379 := n3_; have HO384 := n4_; have HO387 := n5_; have HO391 := n6_; have HB := n7_; clear n2_ n3_ n4_ n5_ n6_ n7_; clear hb ho32; obtain ⟨Ao33, co33, eo33⟩ := Kd.R_slice HO391.out; subst eo33) | ((with_reducible refine gate_callee (f := 54) rfl ?_); refine gL_ 60 Tryd.func54 #[.int .i64 6, .slice Ao33 y389.length co33] ?_; (with_reducible refine (palaverref02_Input.calls k 6 _ _ y389 t392 _ ?side1 ?side2 A12.out).mono ?_); (case side1 => repeat (first | exact (Kd.R_reads' HO391.out).2.2 | (with_reducible refine Kd.C_alloc ?_ _) | (with_reducible refine Kd.C_drewN ?_ _) | (with_reducible refine Kd.C_drew ?_))); (case side2 => exact (Kd.R_reads' HO391.out).2.1); rintro e w34 ⟨rfl, hb⟩; refine ⟨_, rfl, ?_⟩; have n2_ := Aside0.mk (Kd.R_below (mv_ HO369.out) hb); have n3_ := Aside0.mk (Kd.R_below (mv_ HO379.out) hb); have n4_ := Aside0.mk (Kd.R_below (mv_ HO384.out) hb); have n5_ := Aside0.mk (Kd.R_below (mv_ HO387.out) hb); have n6_ := Aside0.mk (Kd.R_below (mv_ HO391.out) hb); have n7_ := Aside0.mk (below_step bl_ hb); clear HO369; clear HO379; clear HO384; clear HO387; clear HO391; clear HB; have HO369 := n2_; have HO379 := n3_; have HO384 := n4_; have HO387 := n5_; have HO391 := n6_; have HB := n7_; clear n2_ n3_ n4_ n5_ n6_ n7_; clear hb) | ((with_reducible refine gate_dst (N := 61) rfl ?_); refine Kd.R_lit Kd.string _ 9 ?hg (N := 61) ?hd (xs := ([t388, t392] : List ByteArray)) (inner := [.string t388, .string t392]) (ok := fun _ => True) (okp := fun _ => True) ?hr ?hp (fun _ hk => hk) trivial (Below.refl _ _) (Nat.le_refl _) (by simp) ?_; (case hd => rfl); (case hg => rfl); (case hr => exact gr_); (case hp => exact (Reps.one (show Kd.M Kd.string _ _ _ t388 [.string t388] from rfl) (Reps.one (show Kd.M Kd.string _ _ _ t392 [.string t392] from rfl) (Reps.none _ _)))); intro v394 w35 ho36 hb hg_ hnew_; clear hg_ hnew_; (first | rw [← Ny393.out] at ho36 | (simp only [Int.reduceToNat] at ho36; rw [← Ny393.out] at ho36)); have n2_ := Aside0.mk (Kd.R_elder' (mv_ HO369.out) (Kd.R_base ho36) hb); have n3_ := Aside0.mk (Kd.R_elder' (mv_ HO379.out) (Kd.R_base ho36) hb); have n4_ := Aside0.mk (Kd.R_elder' (mv_ HO384.out) (Kd.R_base ho36) hb); have n5_ := Aside0.mk (Kd.R_elder' (mv_ HO387.out) (Kd.R_base ho36) hb); have n6_ := Aside0.mk (Kd.R_elder' (mv_ HO391.out) (Kd.R_base ho36) hb); have n7_ := Aside0.mk (Kd.R_lower (Kd.R_new' (Kd.R_new' (Kd.R_new' (Kd.R_new' (Kd.R_new' ((ho36)) (Kd.R_lt (mv_ HO369.out))) (Kd.R_lt (mv_ HO379.out))) (Kd.R_lt (mv_ HO384.out))) (Kd.R_lt (mv_ HO387.out))) (Kd.R_lt (mv_ HO391.out))) (below_size bl_)); have n8_ := Aside0.mk (below_step bl_ hb); clear HO369; clear HO379; clear HO384; clear HO387; clear HO391; clear HB; have HO369 := n2_; have HO379 := n3_; have HO384 := n4_; have HO387 := n5_; have HO391 := n6_; have HO395 := n7_; have HB := n8_; clear n2_ n3_ n4_ n5_ n6_ n7_ n8_; clear hb ho36; obtain ⟨Ao38, co38, eo38⟩ := Kd.R_slice HO395.out; subst eo38) | ((with_reducible refine gate_builtin (b := .append) (xs := #[.tmp 53, .tmp 61]) rfl ?_); at_builtin; refine Kd.R_append_rows Kd.string (w0 := w) w.heap.size rfl (.tmp 53) (.tmp 61) 22 9 (.string ⟨#[]⟩) 16 rfl Tryd.underlying22 info9 rfl (by decide) (by omega) v383 y382 y393 _ _ _ (fun k_ => some k_ ≠ (.slice Ao18 y367.length co18 : Value).ownBlock ∧ some k_ ≠ (.slice Ao26 t376.length co26 : Value).ownBlock ∧ some k_ ≠ (.slice Ao29 y385.length co29 : Value).ownBlock ∧ some k_ ≠ (.slice Ao33 y389.length co33 : Value).ownBlock ∧ some k_ ≠ (.slice Ao38 y393.length co38 : Value).ownBlock) (fun _ => False) rfl rfl ?aO ?aR (fun _ _ h => h) (fun _ h => h.elim) ?aF ?aB ?aS ?aL ?_; (case aR => repeat (first | exact (Kd.R_reads' HO395.out).2.2 | (with_reducible refine Kd.C_alloc ?_ _) | (with_reducible refine Kd.C_drewN ?_ _) | (with_reducible refine Kd.C_drew ?_))); (case aB => exact bl_); (case aF => exact (fun k_ hk => ⟨Kd.fresh' (Kd.R_lt (mv_ HO369.out)) k_ hk, Kd.fresh' (Kd.R_lt (mv_ HO379.out)) k_ hk, Kd.fresh' (Kd.R_lt (mv_ HO387.out)) k_ hk, Kd.fresh' (Kd.R_lt (mv_ HO391.out)) k_ hk, Kd.fresh' (Kd.R_lt (mv_ HO395.out)) k_ hk⟩)); (case aO => exact (by refine mv_ ?_; exact Kd.R_mono HO384.out (fun _ hk => ⟨hk.1.1.1.1, ⟨hk.1.1.1.2, ⟨hk.1.1.2, ⟨hk.1.2, hk.2⟩⟩⟩⟩))); (case aS => exact (below_size bl_)); (case aL => have := LMc13.out; omega); intro v397 w37 ho hb hg hat; rw [← Ny396.out] at ho; have n2_ := Aside0.mk (Kd.R_after (ok := (fun k_ => some k_ ≠ (.slice Ao26 t376.length co26 : Value).ownBlock ∧ some k_ ≠ (.slice Ao29 y385.length co29 : Value).ownBlock ∧ some k_ ≠ (.slice Ao33 y389.length co33 : Value).ownBlock ∧ some k_ ≠ (.slice Ao38 y393.length co38 : Value).ownBlock)) (by refine mv_ ?_; exact Kd.R_mono HO369.out (fun _ hk => ⟨⟨hk.1.1.1.1, ⟨hk.1.1.2, ⟨hk.1.2, hk.2⟩⟩⟩, hk.1.1.1.2⟩)) hg hat); have n3_ := Aside0.mk (Kd.R_after (ok := (fun k_ => some k_ ≠ (.slice Ao18 y367.length co18 : Value).ownBlock ∧ some k_ ≠ (.slice Ao29 y385.length co29 : Value).ownBlock ∧ some k_ ≠ (.slice Ao33 y389.length co33 : Value).ownBlock ∧ some k_ ≠ (.slice Ao38 y393.length co38 : Value).ownBlock)) (by refine mv_ ?_; exact Kd.R_mono HO379.out (fun _ hk => ⟨⟨hk.1.1.1.1, ⟨hk.1.1.2, ⟨hk.1.2, hk.2⟩⟩⟩, hk.1.1.1.2⟩)) hg hat); have n4_ := Aside0.mk (Kd.R_after (ok := (fun k_ => some k_ ≠ (.slice Ao18 y367.length co18 : Value).ownBlock ∧ some k_ ≠ (.slice Ao26 t376.length co26 : Value).ownBlock ∧ some k_ ≠ (.slice Ao33 y389.length co33 : Value).ownBlock ∧ some k_ ≠ (.slice Ao38 y393.length co38 : Value).ownBlock)) (by refine mv_ ?_; exact Kd.R_mono HO387.out (fun _ hk => ⟨⟨hk.1.1.1.1.2, ⟨hk.1.1.1.2, ⟨hk.1.2, hk.2⟩⟩⟩, hk.1.1.2⟩)) hg hat); have n5_ := Aside0.mk (Kd.R_after (ok := (fun k_ => some k_ ≠ (.slice Ao18 y367.length co18 : Value).ownBlock ∧ some k_ ≠ (.slice Ao26 t376.length co26 : Value).ownBlock ∧ some k_ ≠ (.slice Ao29 y385.length co29 : Value).ownBlock ∧ some k_ ≠ (.slice Ao38 y393.length co38 : Value).ownBlock)) (by refine mv_ ?_; exact Kd.R_mono HO391.out (fun _ hk => ⟨⟨hk.1.1.1.1.2, ⟨hk.1.1.1.2, ⟨hk.1.2, hk.2⟩⟩⟩, hk.1.1.2⟩)) hg hat); have n6_ := Aside0.mk (Kd.R_after (ok := (fun k_ => some k_ ≠ (.slice Ao18 y367.length co18 : Value).ownBlock ∧ some k_ ≠ (.slice Ao26 t376.length co26 : Value).ownBlock ∧ some k_ ≠ (.slice Ao29 y385.length co29 : Value).ownBlock ∧ some k_ ≠ (.slice Ao33 y389.length co33 : Value).ownBlock)) (by refine mv_ ?_; exact Kd.R_mono HO395.out (fun _ hk => ⟨⟨hk.1.1.1.1.2, ⟨hk.1.1.1.2, ⟨hk.1.2, hk.2⟩⟩⟩, hk.1.1.2⟩)) hg hat); have n7_ := Aside0.mk (hb); have n8_ := Aside0.mk (ho); clear HO369; clear HO379; clear HO387; clear HO391; clear HO395; clear HB; clear HO384; have HO369 := n2_; have HO379 := n3_; have HO387 := n4_; have HO391 := n5_; have HO395 := n6_; have HB := n7_; have HO398 := n8_; clear n2_ n3_ n4_ n5_ n6_ n7_ n8_; clear ho hb hg hat) | ((with_reducible refine gate_callee (f := 58) rfl ?_); refine gL_ 66 Tryd.func58 #[.int .i64 (t361.length : Int), .string t375] ?_; (with_reducible refine (palaverref05_Named.calls k (t361.length : Int) t375 t399 _ A14.out).mono ?_); rintro e w39 ⟨rfl, hb⟩; refine ⟨_, rfl, ?_⟩; have n2_ := Aside0.mk (Kd.R_below (mv_ HO369.out) hb); have n3_ := Aside0.mk (Kd.R_below (mv_ HO379.out) hb); have n4_ := Aside0.mk (Kd.R_below (mv_ HO387.out) hb); have n5_ := Aside0.mk (Kd.R_below (mv_ HO391.out) hb); have n6_ := Aside0.mk (Kd.R_below (mv_ HO395.out) hb); have n7_ := Aside0.mk (Kd.R_below (mv_ HO398.out) hb); have n8_ := Aside0.mk (below_step bl_ hb); clear HO369; clear HO379; clear HO387; clear HO391; clear HO395; clear HO398; clear HB; have HO369 := n2_; have HO379 := n3_; have HO387 := n4_; have HO391 := n5_; have HO395 := n6_; have HO398 := n7_; have HB := n8_; clear n2_ n3_ n4_ n5_ n6_ n7_ n8_; clear hb))
  go_ret2
  exact ⟨_, er_, by refine mv_ ?_; exact Kd.R_mono HO398.out (fun _ hk => trivial), bl_⟩
 replace c5 := Bool.eq_false_iff.mpr c5
 subst c5
 have H1 : (some (false, ([] : List ByteArray))) = some (r1, r2) := by rw [if_neg (show ¬ (false = true) by decide)] at H; exact H
 clear H
 have H := H1
 clear H1
 simp only [Option.some.injEq, Prod.mk.injEq] at H
 obtain ⟨rfl, rfl⟩ := H
 go_enter Tryd.func38, Tryd.ntmps38
 go_wp2_with (first | ((with_reducible refine gate_callee (f := 55) rfl ?_); refine gL_ 21 Tryd.func55 #[.string a2] ?_; (with_reducible refine (palaverref05_Parts.calls k a2 t359 t360 t361 false _ A4.out).mono ?_); rintro e w40 ⟨P1_, P2_, q1_, q2_, rfl, hc1_, hq1_, hc2_, hq2_, hb⟩; refine ⟨_, rfl, ?_⟩; have Q1_ := Aside0.mk hq1_; have Q2_ := Aside0.mk hq2_; replace HB := Aside0.mk (below_step bl_ hb); have HO366 := Aside0.mk hc2_; have HO364 := Aside0.mk hc1_; clear hb; clear hc1_ hq1_ hc2_ hq2_))
 go_ret2
 exact ⟨_, er_, by first | exact Kd.R_nil _ _ _ _ _ | exact Kd.N_nil _ _ _ _ _ | exact Kd.V_nil _ _ _ _ _ | exact Kd.Q_nil _ _ _ _ _ | exact Kd.S_nil _ _ _ _ _, bl_⟩

/-! ### palaverref06_Signed: function 22 -/
def palaverref06_Signed.f (k : Nat) (a0_0 : Int) (a0_1 : ByteArray) (l0_2 : List ByteArray) (a0_3 : ByteArray) (a0_4 : ByteArray) : Option (Bool) := (palaverref06_Content.f k a0_0 a0_1 l0_2 a0_3 a0_4).bind fun t401 => ((palaverref05_Verify.f k a0_1 t401 a0_4).bind fun bt402 => (some bt402.1))
theorem palaverref06_Signed.mono : ∀ a0 a1 a2 a3 a4 k, LeO (palaverref06_Signed.f k a0 a1 a2 a3 a4) (palaverref06_Signed.f (k + 1) a0 a1 a2 a3 a4) := by
 intro a0 a1 a2 a3 a4 k
 unfold palaverref06_Signed.f
 repeat' first
  | (with_reducible exact palaverref05_Verify.mono _ _ _ _)
  | (with_reducible exact palaverref06_Content.mono _ _ _ _ _ _)
  | (with_reducible exact LeO.refl _)
  | (with_reducible exact LeO.none _)
  | (with_reducible refine LeO.ite ?_ ?_)
  | (with_reducible refine LeO.bind ?_ (fun _ => ?_))
  | exact palaverref05_Verify.mono _ _ _ _
  | exact palaverref06_Content.mono _ _ _ _ _ _
  | exact LeO.none _
  | refine LeO.ite ?_ ?_
  | refine LeO.bind ?_ (fun _ => ?_)
def palaverref06_Signed.T1 : Bool × List (List Nat × List Nat) := (true, [([], []), ([0], [0]), ([], []), ([2], [2]), ([], []), ([4], [4]), ([1, 3, 5, 3], [1, 3, 5]), ([6], [6]), ([7], [7]), ([7], [7]), ([8, 6, 0, 1, 2, 3, 4, 5, 6, 7, 8], [8]), ([9, 10, 0, 1, 2, 3, 4, 5, 6, 7, 8, 9, 10], [9])])
def palaverref06_Signed.B1 : List Nat := [0, 1, 0, 4, 0, 16, 63, 127, 255, 255, 511, 2047]
theorem palaverref06_Signed.tab1 : rtab .any (opsOf Tryd.f22 1) = palaverref06_Signed.T1 := by kernel_rfl
theorem palaverref06_Signed.bits1 : waitsOk palaverref06_Signed.T1.2 palaverref06_Signed.B1 = true := by kernel_rfl
set_option maxHeartbeats 64000000 in
set_option maxRecDepth 100000 in
theorem palaverref06_Signed.calls (k : Nat) (a0_0 : Int) (a0_1 : ByteArray) (A0_2 : Option Addr) (c0_2 : Nat) (l0_2 : List ByteArray) (a0_3 : ByteArray) (a0_4 : ByteArray) (r : Bool) (w : World) (hr0_2 : Kd.C Kd.string w A0_2 l0_2.length l0_2) (hc0_2 : l0_2.length ≤ c0_2) (h : palaverref06_Signed.f k a0_0 a0_1 l0_2 a0_3 a0_4 = some r) :
 Calls Tryd.prog 22 #[.agg #[.int .i64 a0_0, .string a0_1, .slice A0_2 l0_2.length c0_2, .string a0_3, .string a0_4]] w fun e w' => e = .returned (.bool r) ∧ Below w.heap.size w w' := by
 have hu24 := Tryd.underlying24
 have HR0_2 := Aside0.mk hr0_2
 have HC0_2 := Aside0.mk hc0_2
 clear hr0_2 hc0_2
 have HB := Aside0.mk (Below.refl w.heap.size w)
 have H : ((palaverref06_Content.f k a0_0 a0_1 l0_2 a0_3 a0_4).bind fun t401 => ((palaverref05_Verify.f k a0_1 t401 a0_4).bind fun bt402 => (some bt402.1))) = some r := h
 clear h
 revert H; refine oa_ fun t401 A2 H => ?_
 replace H := ob_ H
 obtain ⟨⟨t402, t403⟩, A30, H⟩ := H
 replace H : (some t402) = some r := H
 have A3 := Aside0.mk A30
 clear A30
 obtain rfl := Option.some.inj H
 go_enter Tryd.func22, Tryd.ntmps22
 try go_wp2_with (first | ((with_reducible refine gate_dst (N := 1) rfl ?_); refine box_event ?hg (N := 1) ?hd (cs := #[.int .i64 a0_0, .string a0_1, .slice A0_2 l0_2.length c0_2, .string a0_3, .string a0_4]) (t := 24) ?hr ?_; (case hd => rfl); (case hg => rfl); (case hr => exact gr_); intro gb400 hg w4 hbox hb; have GE400 := Aside0.mk ((by rw [hg]; exact (below_size bl_) : w.heap.size ≤ gb400)); have GW400 := Aside0.mk ((by rw [hg]; exact (below_size bl_) : w.heap.size ≤ gb400)); have BK400 := Aside0.mk (hbox); replace HB := Aside0.mk (below_step bl_ hb); clear hb hbox hg))
 replace HB := Aside0.mk (below_drew1 HB.out)
 replace BK400 := Aside0.mk (blk_drew BK400.out)
 refine start_ (n := 12) (S := fun w' => w'.cell? ⟨gb400, 0, none⟩ = some (.int .i64 a0_0) ∧ w'.cell? ⟨gb400, 1, none⟩ = some (.string a0_1) ∧ w'.cell? ⟨gb400, 2, none⟩ = some (.slice A0_2 l0_2.length c0_2) ∧ w'.cell? ⟨gb400, 3, none⟩ = some (.string a0_3) ∧ w'.cell? ⟨gb400, 4, none⟩ = some (.string a0_4)) (ds := []) #[false, false, false, false, false, false, false, false, false, false, false, false] (by kernel_rfl) rfl rfl ⟨(blk_cell BK400.out 0).trans rfl, (blk_cell BK400.out 1).trans rfl, (blk_cell BK400.out 2).trans rfl, (blk_cell BK400.out 3).trans rfl, (blk_cell BK400.out 4).trans rfl⟩ (fun hHeld => ?_); refine with_tabW palaverref06_Signed.tab1 palaverref06_Signed.bits1 (fun HT_ HW_ => ?_)
 generalize w4.drew = w5 at BK400 HB hHeld ⊢
 refine runs_ [(0, some 6), (4, some 10)] ?_
 iterate 2 (refine pL_ ?_)
 refine runsE_ ?_
 refine runs_ [(1, some 7), (2, some 8), (5, some 11)] ?_
 iterate 3 (refine takeL_ (v := ?_) (a' := ?_) rfl rfl (take_ofW HT_.out HW_.out (by kernel_rfl)) (Or.inl ⟨by rfl, ?_⟩) hHeld ?_ ?_ (fun _ _ _ h => h); rotate_left; (rintro w' ⟨s0, s1, s2, s3, s4⟩; go_simp; with_reducible rfl); rotate_left; (simp only [pr_]; rfl))
 refine runsE_ ?_
 refine one_ (i := 3) (N := some 9) #[true, true, true, true, true, true, false, false, false, false, false, false] rfl rfl (one_of HT_.out (by kernel_rfl)) (by decide) (fun K hK => ?_)
 refine goes_ Tryd.func16 (by kernel_rfl) rfl #[.agg #[.int .i64 a0_0, .string a0_1, .slice A0_2 l0_2.length c0_2, .string a0_3, .string a0_4]] (by rfl) rfl rfl gm1_ ?_
 with_reducible refine (palaverref06_Content.calls k a0_0 a0_1 _ _ l0_2 a0_3 a0_4 t401 _ ?side1 ?side2 A2.out).mono ?_
 (case side1 => repeat (first | exact (Kd.C_below HR0_2.out HB.out) | (with_reducible refine Kd.C_alloc ?_ _) | (with_reducible refine Kd.C_drewN ?_ _) | (with_reducible refine Kd.C_drew ?_)))
 (case side2 => exact HC0_2.out)
 rintro e w6 ⟨rfl, hb⟩
 refine ⟨_, rfl, ?_⟩
 replace HB := Aside0.mk (below_step (bs_ GE400.out) hb)
 replace BK400 := Aside0.mk (blk_below (g := gb400) (o := .cells #[.int .i64 a0_0, .string a0_1, .slice A0_2 l0_2.length c0_2, .string a0_3, .string a0_4] 24 (0, 0)) (mb_ BK400.out) hb)
 clear hb
 refine hK.out _ _ ⟨(blk_cell BK400.out 0).trans rfl, (blk_cell BK400.out 1).trans rfl, (blk_cell BK400.out 2).trans rfl, (blk_cell BK400.out 3).trans rfl, (blk_cell BK400.out 4).trans rfl⟩ (fun hHeld => ?_)
 clear hK K
 refine norm_ (a' := ?_) ?_ ?_
 rotate_left
 ·show Act.put _ (some 9) _ = _
  simp only [pr_]
  rfl
 refine one_ (i := 6) (N := some 12) #[true, true, true, true, true, true, true, false, false, false, false, false] rfl rfl (one_of HT_.out (by kernel_rfl)) (by decide) (fun K hK => ?_)
 refine goes_ Tryd.func38 (by kernel_rfl) rfl #[.string a0_1, .string t401, .string a0_4] (by rfl) rfl rfl gm1_ ?_
 with_reducible refine (palaverref05_Verify.calls k a0_1 t401 a0_4 t402 t403 _ A3.out).mono ?_
 rintro e w7 ⟨v404, rfl, ho0, hb⟩
 refine ⟨_, rfl, ?_⟩
 replace BK400 := Aside0.mk (blk_below (g := gb400) (o := .cells #[.int .i64 a0_0, .string a0_1, .slice A0_2 l0_2.length c0_2, .string a0_3, .string a0_4] 24 (0, 0)) (mb_ BK400.out) hb)
 have HO405 := Aside0.mk (Kd.R_lower ho0 (below_size (bs_ GE400.out)))
 replace HB := Aside0.mk (below_step (bs_ GE400.out) hb)
 clear hb
 clear ho0
 refine hK.out _ _ ⟨(blk_cell BK400.out 0).trans rfl, (blk_cell BK400.out 1).trans rfl, (blk_cell BK400.out 2).trans rfl, (blk_cell BK400.out 3).trans rfl, (blk_cell BK400.out 4).trans rfl⟩ (fun hHeld => ?_)
 clear hK K
 refine norm_ (a' := ?_) ?_ ?_
 rotate_left
 ·show Act.put _ (some 12) _ = _
  simp only [pr_]
  rfl
 refine runs_ [(7, some 5), (8, some 13), (9, some 14), (10, some 3), (11, some 4)] ?_
 iterate 5 (refine pL_ ?_)
 refine runsE_ ?_
 refine done_ (done_of HT_.out (by kernel_rfl)) ?_
 try go_wp2
 go_ret
 exact ⟨er_, bs_ GE400.out⟩

/-! ### event_Content: function 12 -/
def event_Content.f (k : Nat) (a0_0 : Int) (a0_1 : ByteArray) (l0_2 : List ByteArray) (a0_3 : ByteArray) (a0_4 : ByteArray) : Option (ByteArray × Int) := (event_Right.f k a0_0 a0_1 l0_2 a0_3 (⟨#[]⟩ : ByteArray)).bind fun t407 => (if t407 = true then ((event_content.f k a0_0 a0_1 l0_2 a0_3 (⟨#[]⟩ : ByteArray)).bind fun t408 => (some (t408, 0))) else (some ((⟨#[]⟩ : ByteArray), 2)))
theorem event_Content.mono : ∀ a0 a1 a2 a3 a4 k, LeO (event_Content.f k a0 a1 a2 a3 a4) (event_Content.f (k + 1) a0 a1 a2 a3 a4) := by
 intro a0 a1 a2 a3 a4 k
 unfold event_Content.f
 repeat' first
  | (with_reducible exact event_Right.mono _ _ _ _ _ _)
  | (with_reducible exact event_content.mono _ _ _ _ _ _)
  | (with_reducible exact LeO.refl _)
  | (with_reducible exact LeO.none _)
  | (with_reducible refine LeO.ite ?_ ?_)
  | (with_reducible refine LeO.bind ?_ (fun _ => ?_))
  | exact event_Right.mono _ _ _ _ _ _
  | exact event_content.mono _ _ _ _ _ _
  | exact LeO.none _
  | refine LeO.ite ?_ ?_
  | refine LeO.bind ?_ (fun _ => ?_)
set_option maxHeartbeats 64000000 in
set_option maxRecDepth 100000 in
theorem event_Content.calls (k : Nat) (a0_0 : Int) (a0_1 : ByteArray) (A0_2 : Option Addr) (c0_2 : Nat) (l0_2 : List ByteArray) (a0_3 : ByteArray) (a0_4 : ByteArray) (r1 : ByteArray) (r2 : Int) (w : World) (hr0_2 : Kd.C Kd.string w A0_2 l0_2.length l0_2) (hc0_2 : l0_2.length ≤ c0_2) (h : event_Content.f k a0_0 a0_1 l0_2 a0_3 a0_4 = some (r1, r2)) :
 Calls Tryd.prog 12 #[.agg #[.int .i64 a0_0, .string a0_1, .slice A0_2 l0_2.length c0_2, .string a0_3, .string a0_4]] w fun e w' => e = .returned (.tuple #[.string r1, .int .i64 r2]) ∧ Below w.heap.size w w' := by
 have hu24 := Tryd.underlying24
 have HR0_2 := Aside0.mk hr0_2
 have HC0_2 := Aside0.mk hc0_2
 clear hr0_2 hc0_2
 have HB := Aside0.mk (Below.refl w.heap.size w)
 have H : ((event_Right.f k a0_0 a0_1 l0_2 a0_3 (⟨#[]⟩ : ByteArray)).bind fun t407 => (if t407 = true then ((event_content.f k a0_0 a0_1 l0_2 a0_3 (⟨#[]⟩ : ByteArray)).bind fun t408 => (some (t408, 0))) else (some ((⟨#[]⟩ : ByteArray), 2)))) = some (r1, r2) := h
 clear h
 revert H; refine oa_ fun t407 A2 H => ?_
 by_cases c3 : t407 = true
 ·subst c3
  have H1 : ((event_content.f k a0_0 a0_1 l0_2 a0_3 (⟨#[]⟩ : ByteArray)).bind fun t408 => (some (t408, 0))) = some (r1, r2) := by rw [if_pos rfl] at H; exact H
  clear H
  have H := H1
  clear H1
  revert H; refine oa_ fun t408 A4 H => ?_
  simp only [Option.some.injEq, Prod.mk.injEq] at H
  obtain ⟨rfl, rfl⟩ := H
  go_enter Tryd.func12, Tryd.ntmps12
  go_wp2_with (first | ((with_reducible refine gate_dst (N := 1) rfl ?_); refine box_event ?hg (N := 1) ?hd (cs := #[.int .i64 a0_0, .string a0_1, .slice A0_2 l0_2.length c0_2, .string a0_3, .string a0_4]) (t := 24) ?hr ?_; (case hd => rfl); (case hg => rfl); (case hr => exact gr_); intro gb406 hg w5 hbox hb; have GE406 := Aside0.mk ((by rw [hg]; exact (below_size bl_) : w.heap.size ≤ gb406)); have GW406 := Aside0.mk ((by rw [hg]; exact (below_size bl_) : w.heap.size ≤ gb406)); have BK406 := Aside0.mk (hbox); replace HB := Aside0.mk (below_step bl_ hb); clear hb hbox hg; obtain ⟨hcz6_0, hcz6_1, hcz6_2, hcz6_3, hcz6_4⟩ := c5_ BK406.out; obtain ⟨hfz6_0, hfz6_1, hfz6_2, hfz6_3, hfz6_4⟩ := f5_ BK406.out) | ((with_reducible refine gate_callee (f := 13) rfl ?_); refine gL_ 6 Tryd.func13 #[.agg #[.int .i64 a0_0, .string a0_1, .slice A0_2 l0_2.length c0_2, .string a0_3, .string ⟨#[]⟩]] ?_; (with_reducible refine (event_Right.calls k a0_0 a0_1 _ _ l0_2 a0_3 (⟨#[]⟩ : ByteArray) true _ ?side1 ?side2 A2.out).mono ?_); (case side1 => exact Kd.C_below HR0_2.out (bs_ GE406.out)); (case side2 => exact HC0_2.out); rintro e w7 ⟨rfl, hb⟩; refine ⟨_, rfl, ?_⟩; replace HB := Aside0.mk (below_step (bs_ GE406.out) hb); replace BK406 := Aside0.mk (blk_below (g := gb406) (o := .cells #[.int .i64 a0_0, .string a0_1, .slice A0_2 l0_2.length c0_2, .string a0_3, .string ⟨#[]⟩] 24 (0, 0)) (by refine mb_ ?_; refine blk_put (cs := #[.int .i64 a0_0, .string a0_1, .slice A0_2 l0_2.length c0_2, .string a0_3, .string a0_4]) ?_ 4 _ rfl; refine mb_ ?_; exact BK406.out) hb); clear hb; obtain ⟨hcz8_0, hcz8_1, hcz8_2, hcz8_3, hcz8_4⟩ := c5_ BK406.out; obtain ⟨hfz8_0, hfz8_1, hfz8_2, hfz8_3, hfz8_4⟩ := f5_ BK406.out) | ((with_reducible refine gate_callee (f := 26) rfl ?_); refine gL_ 9 Tryd.func26 #[.agg #[.int .i64 a0_0, .string a0_1, .slice A0_2 l0_2.length c0_2, .string a0_3, .string ⟨#[]⟩]] ?_; (with_reducible refine (event_content.calls k a0_0 a0_1 _ _ l0_2 a0_3 (⟨#[]⟩ : ByteArray) t408 _ ?side1 ?side2 A4.out).mono ?_); (case side1 => repeat (first | exact (Kd.C_below HR0_2.out HB.out) | (with_reducible refine Kd.C_alloc ?_ _) | (with_reducible refine Kd.C_drewN ?_ _) | (with_reducible refine Kd.C_drew ?_))); (case side2 => exact HC0_2.out); rintro e w9 ⟨rfl, hb⟩; refine ⟨_, rfl, ?_⟩; replace HB := Aside0.mk (below_step (bs_ GE406.out) hb); replace BK406 := Aside0.mk (blk_below (g := gb406) (o := .cells #[.int .i64 a0_0, .string a0_1, .slice A0_2 l0_2.length c0_2, .string a0_3, .string ⟨#[]⟩] 24 (0, 0)) (mb_ BK406.out) hb); clear hb))
  go_ret2
  exact ⟨er_, bs_ GE406.out⟩
 replace c3 := Bool.eq_false_iff.mpr c3
 subst c3
 have H1 : (some ((⟨#[]⟩ : ByteArray), 2)) = some (r1, r2) := by rw [if_neg (show ¬ (false = true) by decide)] at H; exact H
 clear H
 have H := H1
 clear H1
 simp only [Option.some.injEq, Prod.mk.injEq] at H
 obtain ⟨rfl, rfl⟩ := H
 go_enter Tryd.func12, Tryd.ntmps12
 go_wp2_with (first | ((with_reducible refine gate_dst (N := 1) rfl ?_); refine box_event ?hg (N := 1) ?hd (cs := #[.int .i64 a0_0, .string a0_1, .slice A0_2 l0_2.length c0_2, .string a0_3, .string a0_4]) (t := 24) ?hr ?_; (case hd => rfl); (case hg => rfl); (case hr => exact gr_); intro gb406 hg w10 hbox hb; have GE406 := Aside0.mk ((by rw [hg]; exact (below_size bl_) : w.heap.size ≤ gb406)); have GW406 := Aside0.mk ((by rw [hg]; exact (below_size bl_) : w.heap.size ≤ gb406)); have BK406 := Aside0.mk (hbox); replace HB := Aside0.mk (below_step bl_ hb); clear hb hbox hg; obtain ⟨hcz11_0, hcz11_1, hcz11_2, hcz11_3, hcz11_4⟩ := c5_ BK406.out; obtain ⟨hfz11_0, hfz11_1, hfz11_2, hfz11_3, hfz11_4⟩ := f5_ BK406.out) | ((with_reducible refine gate_callee (f := 13) rfl ?_); refine gL_ 6 Tryd.func13 #[.agg #[.int .i64 a0_0, .string a0_1, .slice A0_2 l0_2.length c0_2, .string a0_3, .string ⟨#[]⟩]] ?_; (with_reducible refine (event_Right.calls k a0_0 a0_1 _ _ l0_2 a0_3 (⟨#[]⟩ : ByteArray) false _ ?side1 ?side2 A2.out).mono ?_); (case side1 => exact Kd.C_below HR0_2.out (bs_ GE406.out)); (case side2 => exact HC0_2.out); rintro e w12 ⟨rfl, hb⟩; refine ⟨_, rfl, ?_⟩; replace HB := Aside0.mk (below_step (bs_ GE406.out) hb); replace BK406 := Aside0.mk (blk_below (g := gb406) (o := .cells #[.int .i64 a0_0, .string a0_1, .slice A0_2 l0_2.length c0_2, .string a0_3, .string ⟨#[]⟩] 24 (0, 0)) (by refine mb_ ?_; refine blk_put (cs := #[.int .i64 a0_0, .string a0_1, .slice A0_2 l0_2.length c0_2, .string a0_3, .string a0_4]) ?_ 4 _ rfl; refine mb_ ?_; exact BK406.out) hb); clear hb))
 go_ret2
 exact ⟨er_, bs_ GE406.out⟩

/-- A state of type 67 at block g of W; what its slices lead to came in by w0. -/
def IsS67 (w0 W : World) (g : Nat) (f0 : ByteArray) (f1 : Bool) : Prop := W.heap[g]? = some (.cells #[.string f0, .bool f1] 67 (0, 0)) ∧ w0.heap.size ≤ g
theorem IsS67.grown {w0 W : World} {g : Nat} {f0 : ByteArray} {f1 : Bool} {W1 : World} {row : Option Nat} (h : IsS67 w0 W g f0 f1) (hw : W.grownBy W1 row) (hne : some g ≠ row) : IsS67 w0 W1 g f0 f1 := by
 obtain ⟨hb, hg⟩ := h
 exact ⟨blk_grown hb hw hne, hg⟩
theorem IsS67.own_neN {w0 W : World} {g : Nat} {f0 : ByteArray} {f1 : Bool} {α : Type} {d : Kd α} {e : Nat} {base : Nat} {ok : Nat → Prop} {v : Value} {xs : List α} (h : IsS67 w0 W g f0 f1) (ho : Kd.N d e W base ok v xs) (ht : e ≠ 67) : some g ≠ v.ownBlock := by
 obtain ⟨hb, hg⟩ := h
 exact Kd.N_ne ho hb ht
theorem IsS67.fresh {w0 W : World} {g : Nat} {f0 : ByteArray} {f1 : Bool} (h : IsS67 w0 W g f0 f1) : ∀ k, W.heap.size ≤ k → k ≠ g := by
 obtain ⟨hb, hg⟩ := h
 exact Kd.freshB hb
theorem IsS67.kept {w0 W : World} {g : Nat} {f0 : ByteArray} {f1 : Bool} {W1 : World} {S : Nat → Prop} (h : IsS67 w0 W g f0 f1) (hk : Kept W W1 S) (hne : ¬ S g) : IsS67 w0 W1 g f0 f1 := by
 obtain ⟨hb, hg⟩ := h
 exact ⟨blk_kept hb hk hne, hg⟩
theorem IsS67.below {w0 W : World} {g : Nat} {f0 : ByteArray} {f1 : Bool} {W1 : World} (h : IsS67 w0 W g f0 f1) (hw : Below W.heap.size W W1) : IsS67 w0 W1 g f0 f1 := h.grown (grown_of_below hw none) (by simp)
theorem IsS67.alloc {w0 W : World} {g : Nat} {f0 : ByteArray} {f1 : Bool} (h : IsS67 w0 W g f0 f1) (o : Obj) : IsS67 w0 (W.alloc o) g f0 f1 := h.below (below_alloc (Below.refl _ _) o)
theorem IsS67.drewN {w0 W : World} {g : Nat} {f0 : ByteArray} {f1 : Bool} (h : IsS67 w0 W g f0 f1) (m : Nat) : IsS67 w0 (W.drewN m) g f0 f1 := h
theorem IsS67.drew {w0 W : World} {g : Nat} {f0 : ByteArray} {f1 : Bool} (h : IsS67 w0 W g f0 f1) : IsS67 w0 W.drew g f0 f1 := h
theorem IsS67.at_ {w0 W : World} {g : Nat} {f0 : ByteArray} {f1 : Bool} {w' : World} {m : Nat} (hq : W.drewN m = w') (h : IsS67 w0 W g f0 f1) : IsS67 w0 w' g f0 f1 := by subst hq; exact IsS67.drewN h m
theorem IsS67.apart {w0 W : World} {g : Nat} {f0 : ByteArray} {f1 : Bool} {α : Type} {d : Kd α} {e : Nat} {base : Nat} {ok : Nat → Prop} {v : Value} {xs : List α} (h : IsS67 w0 W g f0 f1) (ho : d.R e W base ok v xs) (ht : ∀ q, q ∈ e :: d.E → q ≠ 67) : d.R e W base (fun k => ok k ∧ k ≠ g) v xs := by
 obtain ⟨hb, hg⟩ := h
 exact Kd.R_types ho hb ht
theorem IsS67.own_ne {w0 W : World} {g : Nat} {f0 : ByteArray} {f1 : Bool} {α : Type} {d : Kd α} {e : Nat} {base : Nat} {ok : Nat → Prop} {v : Value} {xs : List α} (h : IsS67 w0 W g f0 f1) (ho : d.R e W base ok v xs) (ht : e ≠ 67) : some g ≠ v.ownBlock := by
 obtain ⟨hb, hg⟩ := h
 exact Kd.R_ne ho hb ht
theorem IsS67.apartQ {w0 W : World} {g : Nat} {f0 : ByteArray} {f1 : Bool} {α : Type} {d : Kd α} {e : Nat} {base : Nat} {ok : Nat → Prop} {v : Value} {xs : List α} (h : IsS67 w0 W g f0 f1) (ho : d.Q e W base ok v xs) (ht : ∀ q, q ∈ e :: d.E → q ≠ 67) : d.Q e W base (fun k => ok k ∧ k ≠ g) v xs := by
 obtain ⟨hb, hg⟩ := h
 exact Kd.Q_types ho hb ht
theorem IsS67.own_neQ {w0 W : World} {g : Nat} {f0 : ByteArray} {f1 : Bool} {α : Type} {d : Kd α} {e : Nat} {base : Nat} {ok : Nat → Prop} {v : Value} {xs : List α} (h : IsS67 w0 W g f0 f1) (ho : d.Q e W base ok v xs) (ht : e ≠ 67) : some g ≠ v.ownBlock := by
 obtain ⟨hb, hg⟩ := h
 exact Kd.Q_ne ho hb ht
theorem IsS67.apartS {w0 W : World} {g : Nat} {f0 : ByteArray} {f1 : Bool} {α : Type} {d : Kd α} {e : Nat} {base : Nat} {ok : Nat → Prop} {v : Value} {xs : List α} (h : IsS67 w0 W g f0 f1) (ho : d.S e W base ok v xs) (ht : ∀ q, q ∈ e :: d.E → q ≠ 67) : d.S e W base (fun k => ok k ∧ k ≠ g) v xs := by
 obtain ⟨hb, hg⟩ := h
 exact Kd.S_types ho hb ht
theorem IsS67.own_neS {w0 W : World} {g : Nat} {f0 : ByteArray} {f1 : Bool} {α : Type} {d : Kd α} {e : Nat} {base : Nat} {ok : Nat → Prop} {v : Value} {xs : List α} (h : IsS67 w0 W g f0 f1) (ho : d.S e W base ok v xs) (ht : e ≠ 67) : some g ≠ v.ownBlock := by
 obtain ⟨hb, hg⟩ := h
 exact Kd.S_ne ho hb ht
theorem IsS67.lt {w0 W : World} {g : Nat} {f0 : ByteArray} {f1 : Bool} (h : IsS67 w0 W g f0 f1) : g < W.heap.size := by
 obtain ⟨hb, hg⟩ := h
 exact blk_lt hb
theorem IsS67.ge {w0 W : World} {g : Nat} {f0 : ByteArray} {f1 : Bool} (h : IsS67 w0 W g f0 f1) : w0.heap.size ≤ g := by
 obtain ⟨hb, hg⟩ := h
 exact hg
theorem IsS67.ne_blk {w0 W : World} {g : Nat} {f0 : ByteArray} {f1 : Bool} {a : Nat} {cs : Array Value} {t : TypeId} {fr : Nat × Nat} (h : IsS67 w0 W g f0 f1) (hb2 : W.heap[a]? = some (.cells cs t fr)) (ht : t ≠ 67) : g ≠ a := by
 obtain ⟨hb, hg⟩ := h
 rintro rfl
 rw [hb] at hb2
 injection hb2 with hb2
 injection hb2 with _ ht2
 exact ht ht2.symm
theorem IsS67.far {w0 W : World} {g : Nat} {f0 : ByteArray} {f1 : Bool} {p : Addr} (h : IsS67 w0 W g f0 f1) (hne : g ≠ p.block) (u : Value) : IsS67 w0 (W.setCell p u) g f0 f1 := by
 obtain ⟨hb, hg⟩ := h
 exact ⟨blk_far hb hne u, hg⟩
theorem cellS67_0 {W : World} {g : Nat} {f0 : ByteArray} {f1 : Bool} (h : W.heap[g]? = some (.cells #[.string f0, .bool f1] 67 (0, 0))) : W.cell? ⟨g, 0, none⟩ = some (.string f0) := (blk_cell h 0).trans rfl
theorem IsS67.set_0 {w0 W : World} {g : Nat} {f0 : ByteArray} {f1 : Bool} (h : IsS67 w0 W g f0 f1) (x : ByteArray) : IsS67 w0 (W.setCell ⟨g, 0, none⟩ (.string x)) g x f1 := by
 obtain ⟨hb, hg⟩ := h
 exact ⟨by simpa using blk_set hb 0 (.string x), hg⟩
theorem cellS67_1 {W : World} {g : Nat} {f0 : ByteArray} {f1 : Bool} (h : W.heap[g]? = some (.cells #[.string f0, .bool f1] 67 (0, 0))) : W.cell? ⟨g, 1, none⟩ = some (.bool f1) := (blk_cell h 1).trans rfl
theorem IsS67.set_1 {w0 W : World} {g : Nat} {f0 : ByteArray} {f1 : Bool} (h : IsS67 w0 W g f0 f1) (x : Bool) : IsS67 w0 (W.setCell ⟨g, 1, none⟩ (.bool x)) g f0 x := by
 obtain ⟨hb, hg⟩ := h
 exact ⟨by simpa using blk_set hb 1 (.bool x), hg⟩
theorem IsS67.new (w0 W : World) (f0 : ByteArray) (f1 : Bool) (hB : Below w0.heap.size w0 W) : IsS67 w0 (W.alloc (.cells #[.string f0, .bool f1] 67)) W.heap.size f0 f1 := ⟨by simpa using heap_alloc_new W _, hB.size⟩

/-! ### octets_Read: function 29 -/
def octets_Read.f (a0 : ByteArray) : Option (ByteArray × Bool) := some (a0, false)
set_option maxHeartbeats 64000000 in
set_option maxRecDepth 100000 in
theorem octets_Read.calls (a0 : ByteArray) (r1 : ByteArray) (r2 : Bool) (w0 w : World) (hB : Below w0.heap.size w0 w) (h : octets_Read.f a0 = some (r1, r2)) :
 Calls Tryd.prog 29 #[.string a0] w fun e w' => ∃ g_ : Nat, e = .returned (.pointer (some ⟨g_, 0, none⟩)) ∧ IsS67 w0 w' g_ r1 r2 ∧ Below w0.heap.size w0 w' ∧ Below w.heap.size w w' := by
 have hu67 := Tryd.underlying67
 have HBW := Aside0.mk (Below.refl w.heap.size w)
 have HW0 := Aside0.mk hB.size
 have HB := Aside0.mk hB
 clear hB
 have H : (some (a0, false)) = some (r1, r2) := h
 clear h
 simp only [Option.some.injEq, Prod.mk.injEq] at H
 obtain ⟨rfl, rfl⟩ := H
 go_enter Tryd.func29, Tryd.ntmps29
 go_wp2_with (first | ((with_reducible refine gate_dst (N := 5) rfl ?_); refine box_event ?hg (N := 5) ?hd (cs := #[.string a0, .bool false]) (t := 67) ?hr ?_; (case hd => rfl); (case hg => rfl); (case hr => exact gr_); intro gb409 hg w2 hbox hb; have GE409 := Aside0.mk ((Nat.le_trans HW0.out (by rw [hg]; exact (below_size (by repeat (first | (with_reducible first | exact HBW.out | apply lA_ | apply lN_ | apply lD_) | exact HBW.out))) : w.heap.size ≤ gb409) : w0.heap.size ≤ gb409)); have GW409 := Aside0.mk ((by rw [hg]; exact (below_size (by repeat (first | (with_reducible first | exact HBW.out | apply lA_ | apply lN_ | apply lD_) | exact HBW.out))) : w.heap.size ≤ gb409)); have BK409 := Aside0.mk (hbox); replace HB := Aside0.mk (below_step bl_ hb); replace HBW := Aside0.mk (below_step HBW.out hb); clear hb hbox hg))
 go_ret
 exact ⟨_, rfl, (show IsS67 w0 _ gb409 a0 false from ⟨mb_ BK409.out, GE409.out⟩), bs_ GE409.out, by repeat (first | (with_reducible first | exact HBW.out | apply lA_ | apply lN_ | apply lD_ | refine lS_ ?_ GW409.out) | exact HBW.out)⟩

/-! ### octets_Reader_Take: function 33 -/
def octets_Reader_Take.j0 : Nat → Int → Bool → ByteArray → Bool → Option (ByteArray × ByteArray × Bool)
 | 0, _, _, _, _ => none
 | k + 1, x1, x26, x1000, x1001 => if x26 = true then (some ((⟨#[]⟩ : ByteArray), x1000, true)) else (if 0 ≤ x1 then (if x1 ≤ (x1000.size : Int) then (some (x1000.extract 0 (x1 : Int).toNat, x1000.extract (x1 : Int).toNat x1000.size, x1001)) else (none)) else (none))
def octets_Reader_Take.f (k : Nat) (s0_0 : ByteArray) (s0_1 : Bool) (a1 : Int) : Option (ByteArray × ByteArray × Bool) := if s0_1 = true then (octets_Reader_Take.j0 k a1 true s0_0 s0_1) else (if a1 < 0 then (octets_Reader_Take.j0 k a1 true s0_0 s0_1) else (octets_Reader_Take.j0 k a1 (decide (a1 > (s0_0.size : Int))) s0_0 s0_1))
theorem octets_Reader_Take.mono_l : ∀ k, (∀ y0 y1 y2 y3, LeO (octets_Reader_Take.j0 k y0 y1 y2 y3) (octets_Reader_Take.j0 (k + 1) y0 y1 y2 y3))
 | 0 => fun _ _ _ _ r h => by simp [octets_Reader_Take.j0] at h
 | k + 1 => by
  have ih0 := octets_Reader_Take.mono_l k
  ·intro y0 y1 y2 y3
   unfold octets_Reader_Take.j0
   repeat' first
   | (with_reducible exact ih0 _ _ _ _)
   | (with_reducible exact LeO.refl _)
   | (with_reducible exact LeO.none _)
   | (with_reducible refine LeO.ite ?_ ?_)
   | (with_reducible refine LeO.bind ?_ (fun _ => ?_))
   | exact ih0 _ _ _ _
   | exact LeO.none _
   | refine LeO.ite ?_ ?_
   | refine LeO.bind ?_ (fun _ => ?_)
theorem octets_Reader_Take.mono : ∀ a0 a1 a2 k, LeO (octets_Reader_Take.f k a0 a1 a2) (octets_Reader_Take.f (k + 1) a0 a1 a2) := by
 intro a0 a1 a2 k
 have ih0 := octets_Reader_Take.mono_l k
 unfold octets_Reader_Take.f
 repeat' first
  | (with_reducible exact ih0 _ _ _ _)
  | (with_reducible exact LeO.refl _)
  | (with_reducible exact LeO.none _)
  | (with_reducible refine LeO.ite ?_ ?_)
  | (with_reducible refine LeO.bind ?_ (fun _ => ?_))
  | exact ih0 _ _ _ _
  | exact LeO.none _
  | refine LeO.ite ?_ ?_
  | refine LeO.bind ?_ (fun _ => ?_)
set_option maxHeartbeats 64000000 in
set_option maxRecDepth 100000 in
theorem octets_Reader_Take.calls (k : Nat) (g : Nat) (s0_0 : ByteArray) (s0_1 : Bool) (a1 : Int) (r1 : ByteArray) (r2 : ByteArray) (r3 : Bool) (w0 w : World) (hI : IsS67 w0 w g s0_0 s0_1) (hB : Below w0.heap.size w0 w) (h : octets_Reader_Take.f k s0_0 s0_1 a1 = some (r1, r2, r3)) :
 Calls Tryd.prog 33 #[.pointer (some ⟨g, 0, none⟩), .int .i64 a1] w fun e w' => e = .returned (.string r1) ∧ IsS67 w0 w' g r2 r3 ∧ Below w0.heap.size w0 w' ∧ KeepBut w w' g none := by
 have HI0 := Aside0.mk hI
 have HK := Aside0.mk (KeepBut.refl w g none)
 have HL := Aside0.mk hB.size
 clear hI
 have HW0 := Aside0.mk hB.size
 have HB := Aside0.mk hB
 clear hB
 have H : (if s0_1 = true then (octets_Reader_Take.j0 k a1 true s0_0 s0_1) else (if a1 < 0 then (octets_Reader_Take.j0 k a1 true s0_0 s0_1) else (octets_Reader_Take.j0 k a1 (decide (a1 > (s0_0.size : Int))) s0_0 s0_1))) = some (r1, r2, r3) := h
 clear h
 have HC3 := Aside0.mk H
 clear H
 go_enter Tryd.func33, Tryd.ntmps33
 go_upto_region 1 with (fail)
 go_cut [26] (fun v26 wc => ∃ (kq : Nat) (x26_2 : Bool), v26 = .bool x26_2 ∧ Aside0 (octets_Reader_Take.j0 kq a1 x26_2 s0_0 s0_1 = some (r1, r2, r3)) ∧ Aside0 (kq ≤ k) ∧ Aside0 (IsS67 w0 wc g s0_0 s0_1) ∧ Aside0 (KeepBut w wc g none) ∧ Aside0 (Below w0.heap.size w0 wc))
 case first =>
  have H := HC3.out
  clear HC3
  by_cases c4 : s0_1 = true
  ·subst c4
   have H1 : (octets_Reader_Take.j0 k a1 true s0_0 true) = some (r1, r2, r3) := by rw [if_pos rfl] at H; exact H
   clear H
   have H := H1
   clear H1
   have H' := Aside0.mk H
   clear H
   obtain ⟨HGz5, hgz5⟩ := HI0.out
   have hcz5_0 := cellS67_0 HGz5
   have hcz5_1 := cellS67_1 HGz5
   have hfz5_0 := blk_frozen HGz5 0
   have hfz5_1 := blk_frozen HGz5 1
   clear HGz5 hgz5
   go_wp2
   go_meet
   case rel => exact ⟨_, (true), vq_, H', ⟨by first | omega | exact Nat.le_refl _⟩, ⟨by repeat (first | (with_reducible first | exact HI0.out | apply IsS67.alloc | apply IsS67.drewN | apply IsS67.drew | apply IsS67.set_0 | apply IsS67.set_1) | exact HI0.out)⟩, ⟨hk_⟩, ⟨bs_ (IsS67.ge HI0.out)⟩⟩
  replace c4 := Bool.eq_false_iff.mpr c4
  subst c4
  have H1 : (if a1 < 0 then (octets_Reader_Take.j0 k a1 true s0_0 false) else (octets_Reader_Take.j0 k a1 (decide (a1 > (s0_0.size : Int))) s0_0 false)) = some (r1, r2, r3) := by rw [if_neg (show ¬ (false = true) by decide)] at H; exact H
  clear H
  have H := H1
  clear H1
  by_cases c6 : a1 < 0
  ·rw [if_pos c6] at H
   have c6b0 : decide (a1 < 0) = true := decide_eq_true c6
   clear c6
   (first | rw [c6b0] | (simp only [i64_w, i32_w]; rw [c6b0]) | skip)
   have H' := Aside0.mk H
   clear H
   obtain ⟨HGz7, hgz7⟩ := HI0.out
   have hcz7_0 := cellS67_0 HGz7
   have hcz7_1 := cellS67_1 HGz7
   have hfz7_0 := blk_frozen HGz7 0
   have hfz7_1 := blk_frozen HGz7 1
   clear HGz7 hgz7
   go_wp2
   go_meet
   case rel => exact ⟨_, (true), vq_, H', ⟨by first | omega | exact Nat.le_refl _⟩, ⟨by repeat (first | (with_reducible first | exact HI0.out | apply IsS67.alloc | apply IsS67.drewN | apply IsS67.drew | apply IsS67.set_0 | apply IsS67.set_1) | exact HI0.out)⟩, ⟨hk_⟩, ⟨bs_ (IsS67.ge HI0.out)⟩⟩
  rw [if_neg c6] at H
  have c6b0 : decide (a1 < 0) = false := decide_eq_false c6
  clear c6
  (first | rw [c6b0] | (simp only [i64_w, i32_w]; rw [c6b0]) | skip)
  have H' := Aside0.mk H
  clear H
  obtain ⟨HGz8, hgz8⟩ := HI0.out
  have hcz8_0 := cellS67_0 HGz8
  have hcz8_1 := cellS67_1 HGz8
  have hfz8_0 := blk_frozen HGz8 0
  have hfz8_1 := blk_frozen HGz8 1
  clear HGz8 hgz8
  go_wp2
  go_meet
  case rel => exact ⟨_, (decide (a1 > (s0_0.size : Int))), vq_, H', ⟨by first | omega | exact Nat.le_refl _⟩, ⟨by repeat (first | (with_reducible first | exact HI0.out | apply IsS67.alloc | apply IsS67.drewN | apply IsS67.drew | apply IsS67.set_0 | apply IsS67.set_1) | exact HI0.out)⟩, ⟨hk_⟩, ⟨bs_ (IsS67.ge HI0.out)⟩⟩
 case rest =>
  clear HC3
  obtain ⟨kq, x26_2, rfl, HA, HJ2, HI0, HK, HB⟩ := hcut
  cases kq with
  | zero => exact absurd HA.out (by simp [octets_Reader_Take.j0])
  | succ kj2 =>
   have H := HA.out
   clear HA
   simp only [octets_Reader_Take.j0] at H
   by_cases c9 : x26_2 = true
   ·subst c9
    have H1 : (some ((⟨#[]⟩ : ByteArray), s0_0, true)) = some (r1, r2, r3) := by rw [if_pos rfl] at H; exact H
    clear H
    have H := H1
    clear H1
    simp only [Option.some.injEq, Prod.mk.injEq] at H
    obtain ⟨rfl, rfl, rfl⟩ := H
    obtain ⟨HGz10, hgz10⟩ := HI0.out
    have hcz10_0 := cellS67_0 HGz10
    have hcz10_1 := cellS67_1 HGz10
    have hfz10_0 := blk_frozen HGz10 0
    have hfz10_1 := blk_frozen HGz10 1
    clear HGz10 hgz10
    go_wp2
    go_ret
    exact ⟨er_, by repeat (first | (with_reducible first | exact HI0.out | apply IsS67.alloc | apply IsS67.drewN | apply IsS67.drew | apply IsS67.set_0 | apply IsS67.set_1) | exact HI0.out), bs_ (IsS67.ge HI0.out), hk_⟩
   replace c9 := Bool.eq_false_iff.mpr c9
   subst c9
   have H1 : (if 0 ≤ a1 then (if a1 ≤ (s0_0.size : Int) then (some (s0_0.extract 0 (a1 : Int).toNat, s0_0.extract (a1 : Int).toNat s0_0.size, s0_1)) else (none)) else (none)) = some (r1, r2, r3) := by rw [if_neg (show ¬ (false = true) by decide)] at H; exact H
   clear H
   have H := H1
   clear H1
   revert H; refine ne_ fun c11 c11b0 c11b1 => ne_ fun c12 c12b0 c12b1 H => ?_
   clear c11 c12
   have c13b0 := eq_true (ae_ : 0 ≤ a1)
   have c14b0 := eq_true (ae_ : a1 ≤ (s0_0.size : Int))
   simp only [Option.some.injEq, Prod.mk.injEq] at H
   obtain ⟨rfl, rfl, rfl⟩ := H
   obtain ⟨HGz15, hgz15⟩ := HI0.out
   have hcz15_0 := cellS67_0 HGz15
   have hcz15_1 := cellS67_1 HGz15
   have hfz15_0 := blk_frozen HGz15 0
   have hfz15_1 := blk_frozen HGz15 1
   clear HGz15 hgz15
   go_wp2
   go_ret
   exact ⟨er_, by repeat (first | (with_reducible first | exact HI0.out | apply IsS67.alloc | apply IsS67.drewN | apply IsS67.drew | apply IsS67.set_0 | apply IsS67.set_1) | exact HI0.out), bs_ (IsS67.ge HI0.out), hk_⟩

/-! ### octets_Reader_number: function 48 -/
def octets_Reader_number.l0 : Nat → Int → List Int → Int → Int → ByteArray → Bool → Option (Int × ByteArray × Bool)
 | 0, _, _, _, _, _, _ => none
 | k + 1, x5, x11, x12, x13, x1000, x1001 => if x13 < x12 then (if 0 ≤ x13 then (if x13 < (x11.length : Int) then (octets_Reader_number.l0 k (Go.bits .or .i64 (wrap64 (x5 * 256)) (wrap64 (rd x11 x13))) x11 x12 (wrap64 (x13 + 1)) x1000 x1001) else (none)) else (none)) else (some (x5, x1000, x1001))
def octets_Reader_number.f (k : Nat) (s0_0 : ByteArray) (s0_1 : Bool) (a1 : Int) : Option (Int × ByteArray × Bool) := (octets_Reader_Take.f k s0_0 s0_1 a1).bind fun bt410 => (if bt410.1.size ≤ 9223372036854775807 then ((some (bytesOf bt410.1 : List Int)).bind fun y413 => (octets_Reader_number.l0 k 0 y413 (y413.length : Int) 0 bt410.2.1 bt410.2.2)) else (none))
theorem octets_Reader_number.mono_l : ∀ k, (∀ y0 y1 y2 y3 y4 y5, LeO (octets_Reader_number.l0 k y0 y1 y2 y3 y4 y5) (octets_Reader_number.l0 (k + 1) y0 y1 y2 y3 y4 y5))
 | 0 => fun _ _ _ _ _ _ r h => by simp [octets_Reader_number.l0] at h
 | k + 1 => by
  have ih0 := octets_Reader_number.mono_l k
  ·intro y0 y1 y2 y3 y4 y5
   unfold octets_Reader_number.l0
   repeat' first
   | (with_reducible exact ih0 _ _ _ _ _ _)
   | (with_reducible exact octets_Reader_Take.mono _ _ _ _)
   | (with_reducible exact LeO.refl _)
   | (with_reducible exact LeO.none _)
   | (with_reducible refine LeO.ite ?_ ?_)
   | (with_reducible refine LeO.bind ?_ (fun _ => ?_))
   | exact ih0 _ _ _ _ _ _
   | exact octets_Reader_Take.mono _ _ _ _
   | exact LeO.none _
   | refine LeO.ite ?_ ?_
   | refine LeO.bind ?_ (fun _ => ?_)
theorem octets_Reader_number.mono : ∀ a0 a1 a2 k, LeO (octets_Reader_number.f k a0 a1 a2) (octets_Reader_number.f (k + 1) a0 a1 a2) := by
 intro a0 a1 a2 k
 have ih0 := octets_Reader_number.mono_l k
 unfold octets_Reader_number.f
 repeat' first
  | (with_reducible exact ih0 _ _ _ _ _ _)
  | (with_reducible exact octets_Reader_Take.mono _ _ _ _)
  | (with_reducible exact LeO.refl _)
  | (with_reducible exact LeO.none _)
  | (with_reducible refine LeO.ite ?_ ?_)
  | (with_reducible refine LeO.bind ?_ (fun _ => ?_))
  | exact ih0 _ _ _ _ _ _
  | exact octets_Reader_Take.mono _ _ _ _
  | exact LeO.none _
  | refine LeO.ite ?_ ?_
  | refine LeO.bind ?_ (fun _ => ?_)
set_option maxHeartbeats 64000000 in
set_option maxRecDepth 100000 in
theorem octets_Reader_number.calls (k : Nat) (g : Nat) (s0_0 : ByteArray) (s0_1 : Bool) (a1 : Int) (r1 : Int) (r2 : ByteArray) (r3 : Bool) (w0 w : World) (hI : IsS67 w0 w g s0_0 s0_1) (hB : Below w0.heap.size w0 w) (h : octets_Reader_number.f k s0_0 s0_1 a1 = some (r1, r2, r3)) :
 Calls Tryd.prog 48 #[.pointer (some ⟨g, 0, none⟩), .int .i64 a1] w fun e w' => e = .returned (.int .i64 r1) ∧ IsS67 w0 w' g r2 r3 ∧ Below w0.heap.size w0 w' ∧ KeepBut w w' g none := by
 have HI0 := Aside0.mk hI
 have HK := Aside0.mk (KeepBut.refl w g none)
 have HL := Aside0.mk hB.size
 clear hI
 have HW0 := Aside0.mk hB.size
 have HB := Aside0.mk hB
 clear hB
 have H : ((octets_Reader_Take.f k s0_0 s0_1 a1).bind fun bt410 => (if bt410.1.size ≤ 9223372036854775807 then ((some (bytesOf bt410.1 : List Int)).bind fun y413 => (octets_Reader_number.l0 k 0 y413 (y413.length : Int) 0 bt410.2.1 bt410.2.2)) else (none))) = some (r1, r2, r3) := h
 clear h
 replace H := ob_ H
 obtain ⟨⟨t410, t411, t412⟩, A30, H⟩ := H
 replace H : (if t410.size ≤ 9223372036854775807 then ((some (bytesOf t410 : List Int)).bind fun y413 => (octets_Reader_number.l0 k 0 y413 (y413.length : Int) 0 t411 t412)) else (none)) = some (r1, r2, r3) := H
 have A3 := Aside0.mk A30
 clear A30
 revert H; refine ne_ fun c4 c4b0 c4b1 => oy_ fun y413 Ny413 H => ?_
 try have c4b2 : (9223372036854775807 < t410.size) = False := eq_false (Nat.not_lt.2 c4)
 clear c4
 have H' := Aside0.mk H
 clear H
 go_enter Tryd.func48, Tryd.ntmps48
 go_wp2_with (first | ((with_reducible refine gate_callee (f := 33) rfl ?_); refine gL_ 10 Tryd.func33 #[.pointer (some ⟨g, 0, none⟩), .int .i64 a1] ?_; (with_reducible refine (octets_Reader_Take.calls k g s0_0 s0_1 a1 t410 t411 t412 w0 _ ?side1 ?side2 A3.out).mono ?_); (case side1 => repeat (first | (with_reducible first | exact HI0.out | apply IsS67.alloc | apply IsS67.drewN | apply IsS67.drew | apply IsS67.set_0 | apply IsS67.set_1) | exact HI0.out)); (case side2 => repeat (first | (with_reducible first | exact HB.out | apply lA_ | apply lN_ | apply lD_ | refine lS_ ?_ (IsS67.ge HI0.out)) | exact HB.out)); rintro e w5 ⟨rfl, hi, hb, hk⟩; refine ⟨_, rfl, ?_⟩; replace HI0 := Aside0.mk (hi); replace HB := Aside0.mk (hb); replace HK := Aside0.mk (KeepBut.trans hk_ hk (.inl rfl)); clear hb hk hi) | ((with_reducible refine gate_dst (N := 11) rfl ?_); refine conv_event (P := Tryd.prog) rfl (N := 11) rfl 9 42 5 _ rfl t410 rfl Ny413.out Tryd.underlying9 Tryd.underlying42 Tryd.underlying5 (ae_) ?_; intro A416 c416 w6 hR_ hC_ hb; replace HB := Aside0.mk (below_step (bs_ (IsS67.ge HI0.out)) hb); replace HK := Aside0.mk (KeepBut.trans hk_ (KeepBut.of_below hb g none) (.inl rfl)); replace HI0 := Aside0.mk (IsS67.below (by repeat (first | (with_reducible first | exact HI0.out | apply IsS67.alloc | apply IsS67.drewN | apply IsS67.drew | apply IsS67.set_0 | apply IsS67.set_1) | exact HI0.out)) hb); clear hb; have HR416 := Aside0.mk hR_; have HC416 := Aside0.mk hC_; clear hR_ hC_))
 go_loopg [5, 13] k (fun kq v5 v13 w' => ∃ (x5_1 : Int) (x13_1 : Int), v5 = .int .i64 x5_1 ∧ v13 = .int .i64 x13_1 ∧ Aside0 (octets_Reader_number.l0 kq x5_1 y413 (y413.length : Int) x13_1 t411 t412 = some (r1, r2, r3)) ∧ Aside0 (kq ≤ k) ∧ Aside0 (Kd.C (Kd.int .u8) w' A416 y413.length y413) ∧ Aside0 (IsS67 w0 w' g t411 t412) ∧ Aside0 (KeepBut w w' g none) ∧ Aside0 (Below w0.heap.size w0 w'))
 case atStart => exact ⟨(0), (0), vq_, vq_, H', ⟨Nat.le_refl _⟩, ⟨by repeat (first | (with_reducible exact HR416.out) | (with_reducible refine Kd.C_alloc ?_ _) | (with_reducible refine Kd.C_drewN ?_ _) | (with_reducible refine Kd.C_drew ?_) | exact HR416.out)⟩, ⟨by repeat (first | (with_reducible first | exact HI0.out | apply IsS67.alloc | apply IsS67.drewN | apply IsS67.drew | apply IsS67.set_0 | apply IsS67.set_1) | exact HI0.out)⟩, ⟨hk_⟩, ⟨bs_ (IsS67.ge HI0.out)⟩⟩
 case round =>
  clear H'
  clear c4b0 c4b1 c4b2
  obtain ⟨x5_1, x13_1, rfl, rfl, HA, HK1, HR416, HI0, HK, HB⟩ := hrel
  cases gk with
  | zero => exact absurd HA.out (by simp [octets_Reader_number.l0])
  | succ k1 =>
   have H := HA.out
   clear HA
   simp only [octets_Reader_number.l0] at H
   by_cases c7 : x13_1 < (y413.length : Int)
   ·rw [if_pos c7] at H
    have c7b0 : decide (x13_1 < (y413.length : Int)) = true := decide_eq_true c7
    clear c7
    revert H; refine nd_ fun c8 c8b0 => nd_ fun c9 c9b0 H => ?_
    clear c8 c9
    have H' := Aside0.mk H
    clear H
    have p417 : 0 ≤ (x13_1 : Int) := ae_
    have q417 : x13_1 < (y413.length : Int) := ae_
    obtain ⟨ad417, e417, hx417_0⟩ := Kd.at_int (by repeat (first | (with_reducible exact HR416.out) | (with_reducible refine Kd.C_alloc ?_ _) | (with_reducible refine Kd.C_drewN ?_ _) | (with_reducible refine Kd.C_drew ?_) | exact HR416.out)) x13_1 p417 q417
    cases e417
    replace p417 := eq_true p417
    replace q417 := eq_true q417
    go_wp2
    go_roundg k1
    case measure => have := HK1.out; omega
    case rel => exact ⟨(Go.bits .or .i64 (wrap64 (x5_1 * 256)) (wrap64 (rd y413 x13_1))), (wrap64 (x13_1 + 1)), vq_, vq_, H', ⟨by have := HK1.out; omega⟩, ⟨by repeat (first | (with_reducible exact HR416.out) | (with_reducible refine Kd.C_alloc ?_ _) | (with_reducible refine Kd.C_drewN ?_ _) | (with_reducible refine Kd.C_drew ?_) | exact HR416.out)⟩, ⟨by repeat (first | (with_reducible first | exact HI0.out | apply IsS67.alloc | apply IsS67.drewN | apply IsS67.drew | apply IsS67.set_0 | apply IsS67.set_1) | exact HI0.out)⟩, ⟨hk_⟩, ⟨bs_ (IsS67.ge HI0.out)⟩⟩
   rw [if_neg c7] at H
   have c7b0 : decide (x13_1 < (y413.length : Int)) = false := decide_eq_false c7
   clear c7
   simp only [Option.some.injEq, Prod.mk.injEq] at H
   obtain ⟨rfl, rfl, rfl⟩ := H
   go_wp2
   go_ret
   exact ⟨er_, by repeat (first | (with_reducible first | exact HI0.out | apply IsS67.alloc | apply IsS67.drewN | apply IsS67.drew | apply IsS67.set_0 | apply IsS67.set_1) | exact HI0.out), bs_ (IsS67.ge HI0.out), hk_⟩

/-! ### octets_Reader_Short: function 49 -/
def octets_Reader_Short.f (k : Nat) (s0_0 : ByteArray) (s0_1 : Bool) : Option (Int × ByteArray × Bool) := (octets_Reader_number.f k s0_0 s0_1 2).bind fun bt418 => (some (bt418.1, bt418.2.1, bt418.2.2))
theorem octets_Reader_Short.mono : ∀ a0 a1 k, LeO (octets_Reader_Short.f k a0 a1) (octets_Reader_Short.f (k + 1) a0 a1) := by
 intro a0 a1 k
 unfold octets_Reader_Short.f
 repeat' first
  | (with_reducible exact octets_Reader_number.mono _ _ _ _)
  | (with_reducible exact LeO.refl _)
  | (with_reducible exact LeO.none _)
  | (with_reducible refine LeO.ite ?_ ?_)
  | (with_reducible refine LeO.bind ?_ (fun _ => ?_))
  | exact octets_Reader_number.mono _ _ _ _
  | exact LeO.none _
  | refine LeO.ite ?_ ?_
  | refine LeO.bind ?_ (fun _ => ?_)
set_option maxHeartbeats 64000000 in
set_option maxRecDepth 100000 in
theorem octets_Reader_Short.calls (k : Nat) (g : Nat) (s0_0 : ByteArray) (s0_1 : Bool) (r1 : Int) (r2 : ByteArray) (r3 : Bool) (w0 w : World) (hI : IsS67 w0 w g s0_0 s0_1) (hB : Below w0.heap.size w0 w) (h : octets_Reader_Short.f k s0_0 s0_1 = some (r1, r2, r3)) :
 Calls Tryd.prog 49 #[.pointer (some ⟨g, 0, none⟩)] w fun e w' => e = .returned (.int .i64 r1) ∧ IsS67 w0 w' g r2 r3 ∧ Below w0.heap.size w0 w' ∧ KeepBut w w' g none := by
 have HI0 := Aside0.mk hI
 have HK := Aside0.mk (KeepBut.refl w g none)
 have HL := Aside0.mk hB.size
 clear hI
 have HW0 := Aside0.mk hB.size
 have HB := Aside0.mk hB
 clear hB
 have H : ((octets_Reader_number.f k s0_0 s0_1 2).bind fun bt418 => (some (bt418.1, bt418.2.1, bt418.2.2))) = some (r1, r2, r3) := h
 clear h
 replace H := ob_ H
 obtain ⟨⟨t418, t419, t420⟩, A20, H⟩ := H
 replace H : (some (t418, t419, t420)) = some (r1, r2, r3) := H
 have A2 := Aside0.mk A20
 clear A20
 simp only [Option.some.injEq, Prod.mk.injEq] at H
 obtain ⟨rfl, rfl, rfl⟩ := H
 go_enter Tryd.func49, Tryd.ntmps49
 go_wp2_with (first | ((with_reducible refine gate_callee (f := 48) rfl ?_); refine gL_ 4 Tryd.func48 #[.pointer (some ⟨g, 0, none⟩), .int .i64 2] ?_; (with_reducible refine (octets_Reader_number.calls k g s0_0 s0_1 2 t418 t419 t420 w0 _ ?side1 ?side2 A2.out).mono ?_); (case side1 => repeat (first | (with_reducible first | exact HI0.out | apply IsS67.alloc | apply IsS67.drewN | apply IsS67.drew | apply IsS67.set_0 | apply IsS67.set_1) | exact HI0.out)); (case side2 => repeat (first | (with_reducible first | exact HB.out | apply lA_ | apply lN_ | apply lD_ | refine lS_ ?_ (IsS67.ge HI0.out)) | exact HB.out)); rintro e w3 ⟨rfl, hi, hb, hk⟩; refine ⟨_, rfl, ?_⟩; replace HI0 := Aside0.mk (hi); replace HB := Aside0.mk (hb); replace HK := Aside0.mk (KeepBut.trans hk_ hk (.inl rfl)); clear hb hk hi))
 go_ret
 exact ⟨er_, by repeat (first | (with_reducible first | exact HI0.out | apply IsS67.alloc | apply IsS67.drewN | apply IsS67.drew | apply IsS67.set_0 | apply IsS67.set_1) | exact HI0.out), bs_ (IsS67.ge HI0.out), hk_⟩

/-! ### octets_Reader_Good: function 32 -/
def octets_Reader_Good.f (s0_0 : ByteArray) (s0_1 : Bool) : Option (Bool × ByteArray × Bool) := some (!s0_1, s0_0, s0_1)
set_option maxHeartbeats 64000000 in
set_option maxRecDepth 100000 in
theorem octets_Reader_Good.calls (g : Nat) (s0_0 : ByteArray) (s0_1 : Bool) (r1 : Bool) (r2 : ByteArray) (r3 : Bool) (w0 w : World) (hI : IsS67 w0 w g s0_0 s0_1) (hB : Below w0.heap.size w0 w) (h : octets_Reader_Good.f s0_0 s0_1 = some (r1, r2, r3)) :
 Calls Tryd.prog 32 #[.pointer (some ⟨g, 0, none⟩)] w fun e w' => e = .returned (.bool r1) ∧ IsS67 w0 w' g r2 r3 ∧ Below w0.heap.size w0 w' ∧ KeepBut w w' g none := by
 have HI0 := Aside0.mk hI
 have HK := Aside0.mk (KeepBut.refl w g none)
 have HL := Aside0.mk hB.size
 clear hI
 have HW0 := Aside0.mk hB.size
 have HB := Aside0.mk hB
 clear hB
 have H : (some (!s0_1, s0_0, s0_1)) = some (r1, r2, r3) := h
 clear h
 simp only [Option.some.injEq, Prod.mk.injEq] at H
 obtain ⟨rfl, rfl, rfl⟩ := H
 obtain ⟨HGz2, hgz2⟩ := HI0.out
 have hcz2_0 := cellS67_0 HGz2
 have hcz2_1 := cellS67_1 HGz2
 have hfz2_0 := blk_frozen HGz2 0
 have hfz2_1 := blk_frozen HGz2 1
 clear HGz2 hgz2
 go_enter Tryd.func32, Tryd.ntmps32
 go_wp2
 go_ret
 exact ⟨er_, by repeat (first | (with_reducible first | exact HI0.out | apply IsS67.alloc | apply IsS67.drewN | apply IsS67.drew | apply IsS67.set_0 | apply IsS67.set_1) | exact HI0.out), bs_ (IsS67.ge HI0.out), hk_⟩

/-! ### octets_Reader_Left: function 50 -/
def octets_Reader_Left.f (s0_0 : ByteArray) (s0_1 : Bool) : Option (Int × ByteArray × Bool) := (octets_Reader_Good.f s0_0 s0_1).bind fun bt421 => (if bt421.1 = true then (some ((bt421.2.1.size : Int), bt421.2.1, bt421.2.2)) else (some (0, bt421.2.1, bt421.2.2)))
set_option maxHeartbeats 64000000 in
set_option maxRecDepth 100000 in
theorem octets_Reader_Left.calls (g : Nat) (s0_0 : ByteArray) (s0_1 : Bool) (r1 : Int) (r2 : ByteArray) (r3 : Bool) (w0 w : World) (hI : IsS67 w0 w g s0_0 s0_1) (hB : Below w0.heap.size w0 w) (h : octets_Reader_Left.f s0_0 s0_1 = some (r1, r2, r3)) :
 Calls Tryd.prog 50 #[.pointer (some ⟨g, 0, none⟩)] w fun e w' => e = .returned (.int .i64 r1) ∧ IsS67 w0 w' g r2 r3 ∧ Below w0.heap.size w0 w' ∧ KeepBut w w' g none := by
 have HI0 := Aside0.mk hI
 have HK := Aside0.mk (KeepBut.refl w g none)
 have HL := Aside0.mk hB.size
 clear hI
 have HW0 := Aside0.mk hB.size
 have HB := Aside0.mk hB
 clear hB
 have H : ((octets_Reader_Good.f s0_0 s0_1).bind fun bt421 => (if bt421.1 = true then (some ((bt421.2.1.size : Int), bt421.2.1, bt421.2.2)) else (some (0, bt421.2.1, bt421.2.2)))) = some (r1, r2, r3) := h
 clear h
 replace H := ob_ H
 obtain ⟨⟨t421, t422, t423⟩, A20, H⟩ := H
 replace H : (if t421 = true then (some ((t422.size : Int), t422, t423)) else (some (0, t422, t423))) = some (r1, r2, r3) := H
 have A2 := Aside0.mk A20
 clear A20
 by_cases c3 : t421 = true
 ·subst c3
  have H1 : (some ((t422.size : Int), t422, t423)) = some (r1, r2, r3) := by rw [if_pos rfl] at H; exact H
  clear H
  have H := H1
  clear H1
  simp only [Option.some.injEq, Prod.mk.injEq] at H
  obtain ⟨rfl, rfl, rfl⟩ := H
  go_enter Tryd.func50, Tryd.ntmps50
  go_wp2_with (first | ((with_reducible refine gate_callee (f := 32) rfl ?_); refine gL_ 4 Tryd.func32 #[.pointer (some ⟨g, 0, none⟩)] ?_; (with_reducible refine (octets_Reader_Good.calls g s0_0 s0_1 true t422 t423 w0 _ ?side1 ?side2 A2.out).mono ?_); (case side1 => repeat (first | (with_reducible first | exact HI0.out | apply IsS67.alloc | apply IsS67.drewN | apply IsS67.drew | apply IsS67.set_0 | apply IsS67.set_1) | exact HI0.out)); (case side2 => repeat (first | (with_reducible first | exact HB.out | apply lA_ | apply lN_ | apply lD_ | refine lS_ ?_ (IsS67.ge HI0.out)) | exact HB.out)); rintro e w4 ⟨rfl, hi, hb, hk⟩; refine ⟨_, rfl, ?_⟩; replace HI0 := Aside0.mk (hi); replace HB := Aside0.mk (hb); replace HK := Aside0.mk (KeepBut.trans hk_ hk (.inl rfl)); clear hb hk hi; obtain ⟨HGz5, hgz5⟩ := HI0.out; have hcz5_0 := cellS67_0 HGz5; have hcz5_1 := cellS67_1 HGz5; have hfz5_0 := blk_frozen HGz5 0; have hfz5_1 := blk_frozen HGz5 1; clear HGz5 hgz5))
  go_ret
  exact ⟨er_, by repeat (first | (with_reducible first | exact HI0.out | apply IsS67.alloc | apply IsS67.drewN | apply IsS67.drew | apply IsS67.set_0 | apply IsS67.set_1) | exact HI0.out), bs_ (IsS67.ge HI0.out), hk_⟩
 replace c3 := Bool.eq_false_iff.mpr c3
 subst c3
 have H1 : (some (0, t422, t423)) = some (r1, r2, r3) := by rw [if_neg (show ¬ (false = true) by decide)] at H; exact H
 clear H
 have H := H1
 clear H1
 simp only [Option.some.injEq, Prod.mk.injEq] at H
 obtain ⟨rfl, rfl, rfl⟩ := H
 go_enter Tryd.func50, Tryd.ntmps50
 go_wp2_with (first | ((with_reducible refine gate_callee (f := 32) rfl ?_); refine gL_ 4 Tryd.func32 #[.pointer (some ⟨g, 0, none⟩)] ?_; (with_reducible refine (octets_Reader_Good.calls g s0_0 s0_1 false t422 t423 w0 _ ?side1 ?side2 A2.out).mono ?_); (case side1 => repeat (first | (with_reducible first | exact HI0.out | apply IsS67.alloc | apply IsS67.drewN | apply IsS67.drew | apply IsS67.set_0 | apply IsS67.set_1) | exact HI0.out)); (case side2 => repeat (first | (with_reducible first | exact HB.out | apply lA_ | apply lN_ | apply lD_ | refine lS_ ?_ (IsS67.ge HI0.out)) | exact HB.out)); rintro e w6 ⟨rfl, hi, hb, hk⟩; refine ⟨_, rfl, ?_⟩; replace HI0 := Aside0.mk (hi); replace HB := Aside0.mk (hb); replace HK := Aside0.mk (KeepBut.trans hk_ hk (.inl rfl)); clear hb hk hi))
 go_ret
 exact ⟨er_, by repeat (first | (with_reducible first | exact HI0.out | apply IsS67.alloc | apply IsS67.drewN | apply IsS67.drew | apply IsS67.set_0 | apply IsS67.set_1) | exact HI0.out), bs_ (IsS67.ge HI0.out), hk_⟩

/-! ### key_parts: function 59 -/
mutual
def key_parts.j0 : Nat → ByteArray → Int → Bool → Option (Int × List ByteArray × List ByteArray × Bool)
 | 0, _, _, _ => none
 | k + 1, x0, x6, x32 => if x32 = true then (some (0, ([] : List ByteArray), ([] : List ByteArray), false)) else ((octets_Read.f x0).bind fun bt424 => ((octets_Reader_Short.f k bt424.1 bt424.2).bind fun bt427 => (key_parts.l0 k x6 bt427.1 ([] : List ByteArray) bt427.2.1 bt427.2.2)))
def key_parts.l0 : Nat → Int → Int → List ByteArray → ByteArray → Bool → Option (Int × List ByteArray × List ByteArray × Bool)
 | 0, _, _, _, _, _ => none
 | k + 1, x6, x8, x9, x427000, x427001 => (octets_Reader_Left.f x427000 x427001).bind fun bt430 => (if bt430.1 > 0 then ((octets_Reader_Take.f k bt430.2.1 bt430.2.2 32).bind fun bt433 => (if x9.length < 8796093022208 then (key_parts.l0 k x6 x8 (x9 ++ [bt433.1]) bt433.2.1 bt433.2.2) else (none))) else (if 0 ≤ x6 then (if x8 ≥ (shl .i64 1 x6) then (some (0, ([] : List ByteArray), ([] : List ByteArray), false)) else (if 67 ≤ x9.length then (some (x8, x9.take 67, x9.drop 67, true)) else (none))) else (none)))
end
def key_parts.f (k : Nat) (a0 : ByteArray) : Option (Int × List ByteArray × List ByteArray × Bool) := if (a0.size : Int) < 2 then (key_parts.j0 k a0 (wrap64 ((wrap64 (Int.tdiv (wrap64 ((a0.size : Int) - 2)) 32)) - 67)) true) else (if (Int.tmod (wrap64 ((a0.size : Int) - 2)) 32) = 0 then (if (wrap64 ((wrap64 (Int.tdiv (wrap64 ((a0.size : Int) - 2)) 32)) - 67)) < 0 then (key_parts.j0 k a0 (wrap64 ((wrap64 (Int.tdiv (wrap64 ((a0.size : Int) - 2)) 32)) - 67)) true) else (key_parts.j0 k a0 (wrap64 ((wrap64 (Int.tdiv (wrap64 ((a0.size : Int) - 2)) 32)) - 67)) (decide ((wrap64 ((wrap64 (Int.tdiv (wrap64 ((a0.size : Int) - 2)) 32)) - 67)) > 4)))) else (key_parts.j0 k a0 (wrap64 ((wrap64 (Int.tdiv (wrap64 ((a0.size : Int) - 2)) 32)) - 67)) true))
theorem key_parts.mono_l : ∀ k, (∀ y0 y1 y2, LeO (key_parts.j0 k y0 y1 y2) (key_parts.j0 (k + 1) y0 y1 y2)) ∧ (∀ y0 y1 y2 y3 y4, LeO (key_parts.l0 k y0 y1 y2 y3 y4) (key_parts.l0 (k + 1) y0 y1 y2 y3 y4))
 | 0 => ⟨fun _ _ _ r h => by simp [key_parts.j0] at h, fun _ _ _ _ _ r h => by simp [key_parts.l0] at h⟩
 | k + 1 => by
  obtain ⟨ih0, ih1⟩ := key_parts.mono_l k
  refine ⟨?_, ?_⟩ <;> intros <;> (first | unfold key_parts.j0 | unfold key_parts.l0) <;> repeat' first
  | (with_reducible exact ih0 _ _ _)
  | (with_reducible exact ih1 _ _ _ _ _)
  | (with_reducible exact octets_Reader_Short.mono _ _ _)
  | (with_reducible exact octets_Reader_Take.mono _ _ _ _)
  | (with_reducible exact LeO.refl _)
  | (with_reducible exact LeO.none _)
  | (with_reducible refine LeO.ite ?_ ?_)
  | (with_reducible refine LeO.bind ?_ (fun _ => ?_))
  | exact ih0 _ _ _
  | exact ih1 _ _ _ _ _
  | exact octets_Reader_Short.mono _ _ _
  | exact octets_Reader_Take.mono _ _ _ _
  | exact LeO.none _
  | refine LeO.ite ?_ ?_
  | refine LeO.bind ?_ (fun _ => ?_)
theorem key_parts.mono : ∀ a0 k, LeO (key_parts.f k a0) (key_parts.f (k + 1) a0) := by
 intro a0 k
 obtain ⟨ih0, ih1⟩ := key_parts.mono_l k
 unfold key_parts.f
 repeat' first
  | (with_reducible exact ih0 _ _ _)
  | (with_reducible exact ih1 _ _ _ _ _)
  | (with_reducible exact octets_Reader_Short.mono _ _ _)
  | (with_reducible exact octets_Reader_Take.mono _ _ _ _)
  | (with_reducible exact LeO.refl _)
  | (with_reducible exact LeO.none _)
  | (with_reducible refine LeO.ite ?_ ?_)
  | (with_reducible refine LeO.bind ?_ (fun _ => ?_))
  | exact ih0 _ _ _
  | exact ih1 _ _ _ _ _
  | exact octets_Reader_Short.mono _ _ _
  | exact octets_Reader_Take.mono _ _ _ _
  | exact LeO.none _
  | refine LeO.ite ?_ ?_
  | refine LeO.bind ?_ (fun _ => ?_)
set_option maxHeartbeats 64000000 in
set_option maxRecDepth 100000 in
theorem key_parts.calls (k : Nat) (a0 : ByteArray) (r1 : Int) (r2 : List ByteArray) (r3 : List ByteArray) (r4 : Bool) (w : World) (h : key_parts.f k a0 = some (r1, r2, r3, r4)) :
 Calls Tryd.prog 59 #[.string a0] w fun e w' => ∃ (A1_ A2_ : Option Addr) (c1_ c2_ : Nat), e = .returned (.tuple #[.int .i64 r1, .slice A1_ r2.length c1_, .slice A2_ r3.length c2_, .bool r4]) ∧ Kd.C Kd.string w' A1_ r2.length r2 ∧ r2.length ≤ c1_ ∧ Kd.C Kd.string w' A2_ r3.length r3 ∧ r3.length ≤ c2_ ∧ Below w.heap.size w w' := by
 have HB := Aside0.mk (Below.refl w.heap.size w)
 have H : (if (a0.size : Int) < 2 then (key_parts.j0 k a0 (wrap64 ((wrap64 (Int.tdiv (wrap64 ((a0.size : Int) - 2)) 32)) - 67)) true) else (if (Int.tmod (wrap64 ((a0.size : Int) - 2)) 32) = 0 then (if (wrap64 ((wrap64 (Int.tdiv (wrap64 ((a0.size : Int) - 2)) 32)) - 67)) < 0 then (key_parts.j0 k a0 (wrap64 ((wrap64 (Int.tdiv (wrap64 ((a0.size : Int) - 2)) 32)) - 67)) true) else (key_parts.j0 k a0 (wrap64 ((wrap64 (Int.tdiv (wrap64 ((a0.size : Int) - 2)) 32)) - 67)) (decide ((wrap64 ((wrap64 (Int.tdiv (wrap64 ((a0.size : Int) - 2)) 32)) - 67)) > 4)))) else (key_parts.j0 k a0 (wrap64 ((wrap64 (Int.tdiv (wrap64 ((a0.size : Int) - 2)) 32)) - 67)) true))) = some (r1, r2, r3, r4) := h
 clear h
 have HC2 := Aside0.mk H
 clear H
 go_enter Tryd.func59, Tryd.ntmps59
 go_upto_region 2 with (fail)
 repeat (go_quiet (fail); go_upto_region 2 with (fail))
 go_cut [32] (fun v32 wc => ∃ (kq : Nat) (x32_1 : Bool), v32 = .bool x32_1 ∧ Aside0 (key_parts.j0 kq a0 (wrap64 ((wrap64 (Int.tdiv (wrap64 ((a0.size : Int) - 2)) 32)) - 67)) x32_1 = some (r1, r2, r3, r4)) ∧ Aside0 (kq ≤ k) ∧ Aside0 (Below w.heap.size w wc))
 case first =>
  have H := HC2.out
  clear HC2
  by_cases c3 : (a0.size : Int) < 2
  ·rw [if_pos c3] at H
   have c3b0 : decide ((a0.size : Int) < 2) = true := decide_eq_true c3
   have c3b1 : decide (a0.size < 2) = true := decide_eq_true (by omega)
   clear c3
   (first | rw [c3b0] | (simp only [i64_w, i32_w]; rw [c3b0]) | skip)
   have H' := Aside0.mk H
   clear H
   go_wp2
   repeat (go_quiet (fail); try go_wp2)
   go_meet
   case rel => exact ⟨_, (true), vq_, H', ⟨by first | omega | exact Nat.le_refl _⟩, ⟨bl_⟩⟩
  rw [if_neg c3] at H
  have c3b0 : decide ((a0.size : Int) < 2) = false := decide_eq_false c3
  have c3b1 : decide (a0.size < 2) = false := decide_eq_false (by omega)
  clear c3
  (first | rw [c3b0] | (simp only [i64_w, i32_w]; rw [c3b0]) | skip)
  by_cases c4 : (Int.tmod (wrap64 ((a0.size : Int) - 2)) 32) = 0
  ·rw [if_pos c4] at H
   have c4b0 : ((Int.tmod (wrap64 ((a0.size : Int) - 2)) 32) == 0) = true := beq_iff_eq.mpr c4
   have c4b1 : ((Int.tmod (wrap64 ((a0.size : Int) - 2)) 32) != 0) = false := bne_eq_false_iff_eq.mpr c4
   clear c4
   by_cases c5 : (wrap64 ((wrap64 (Int.tdiv (wrap64 ((a0.size : Int) - 2)) 32)) - 67)) < 0
   ·rw [if_pos c5] at H
    have c5b0 : decide ((wrap64 ((wrap64 (Int.tdiv (wrap64 ((a0.size : Int) - 2)) 32)) - 67)) < 0) = true := decide_eq_true c5
    clear c5
    have H' := Aside0.mk H
    clear H
    go_wp2
    repeat (go_quiet (fail); try go_wp2)
    go_meet
    case rel => exact ⟨_, (true), vq_, H', ⟨by first | omega | exact Nat.le_refl _⟩, ⟨bl_⟩⟩
   rw [if_neg c5] at H
   have c5b0 : decide ((wrap64 ((wrap64 (Int.tdiv (wrap64 ((a0.size : Int) - 2)) 32)) - 67)) < 0) = false := decide_eq_false c5
   clear c5
   have H' := Aside0.mk H
   clear H
   go_wp2
   repeat (go_quiet (fail); try go_wp2)
   go_meet
   case rel => exact ⟨_, (decide ((wrap64 ((wrap64 (Int.tdiv (wrap64 ((a0.size : Int) - 2)) 32)) - 67)) > 4)), vq_, H', ⟨by first | omega | exact Nat.le_refl _⟩, ⟨bl_⟩⟩
  rw [if_neg c4] at H
  have c4b0 : ((Int.tmod (wrap64 ((a0.size : Int) - 2)) 32) == 0) = false := beq_eq_false_iff_ne.mpr c4
  have c4b1 : ((Int.tmod (wrap64 ((a0.size : Int) - 2)) 32) != 0) = true := bne_iff_ne.mpr c4
  have H' := Aside0.mk H
  clear H
  go_wp2
  repeat (go_quiet (fail); try go_wp2)
  go_meet
  case rel => exact ⟨_, (true), vq_, H', ⟨by first | omega | exact Nat.le_refl _⟩, ⟨bl_⟩⟩
 case rest =>
  clear HC2
  obtain ⟨kq, x32_1, rfl, HA, HJ1, HB⟩ := hcut
  cases kq with
  | zero => exact absurd HA.out (by simp [key_parts.j0])
  | succ kj1 =>
   have H := HA.out
   clear HA
   simp only [key_parts.j0] at H
   by_cases c6 : x32_1 = true
   ·subst c6
    have H1 : (some (0, ([] : List ByteArray), ([] : List ByteArray), false)) = some (r1, r2, r3, r4) := by rw [if_pos rfl] at H; exact H
    clear H
    have H := H1
    clear H1
    simp only [Option.some.injEq, Prod.mk.injEq] at H
    obtain ⟨rfl, rfl, rfl, rfl⟩ := H
    go_wp2
    repeat (go_quiet (fail); try go_wp2)
    refine bodyPost_ret (results_list (rs := [.tmp 2, .tmp 3, .tmp 4, .tmp 5]) rfl (by simp) (.tmp (.tmp (.tmp (.tmp .nil))))) rfl ?_
    exact ⟨none, none, 0, 0, er_, Kd.C_nil _ _, Nat.le_refl _, Kd.C_nil _ _, Nat.le_refl _, bl_⟩
   replace c6 := Bool.eq_false_iff.mpr c6
   subst c6
   have H1 : ((octets_Read.f a0).bind fun bt424 => ((octets_Reader_Short.f kj1 bt424.1 bt424.2).bind fun bt427 => (key_parts.l0 kj1 (wrap64 ((wrap64 (Int.tdiv (wrap64 ((a0.size : Int) - 2)) 32)) - 67)) bt427.1 ([] : List ByteArray) bt427.2.1 bt427.2.2))) = some (r1, r2, r3, r4) := by rw [if_neg (show ¬ (false = true) by decide)] at H; exact H
   clear H
   have H := H1
   clear H1
   replace H := ob_ H
   obtain ⟨⟨t424, t425⟩, A70, H⟩ := H
   replace H : ((octets_Reader_Short.f kj1 t424 t425).bind fun bt427 => (key_parts.l0 kj1 (wrap64 ((wrap64 (Int.tdiv (wrap64 ((a0.size : Int) - 2)) 32)) - 67)) bt427.1 ([] : List ByteArray) bt427.2.1 bt427.2.2)) = some (r1, r2, r3, r4) := H
   have A7 := Aside0.mk A70
   clear A70
   replace H := ob_ H
   obtain ⟨⟨t427, t428, t429⟩, A80, H⟩ := H
   replace H : (key_parts.l0 kj1 (wrap64 ((wrap64 (Int.tdiv (wrap64 ((a0.size : Int) - 2)) 32)) - 67)) t427 ([] : List ByteArray) t428 t429) = some (r1, r2, r3, r4) := H
   have A8 := Aside0.mk A80
   clear A80
   have H' := Aside0.mk H
   clear H
   go_wp2_with (first | (go_at_call 29; (with_reducible refine (octets_Read.calls a0 t424 t425 w _ ?side1 A7.out).mono ?_); (case side1 => repeat (first | (with_reducible first | exact HB.out | apply lA_ | apply lN_ | apply lD_) | exact HB.out)); rintro e w9 ⟨g426, rfl, hi, hb, hb2⟩; have HI426 := Aside0.mk (hi); replace HB := Aside0.mk (hb); clear hb hb2 hi) | (go_at_call 49; (with_reducible refine (octets_Reader_Short.calls kj1 g426 t424 t425 t427 t428 t429 w _ ?side1 ?side2 A8.out).mono ?_); (case side1 => repeat (first | (with_reducible first | exact HI426.out | apply IsS67.alloc | apply IsS67.drewN | apply IsS67.drew | apply IsS67.set_0 | apply IsS67.set_1) | exact HI426.out)); (case side2 => repeat (first | (with_reducible first | exact HB.out | apply lA_ | apply lN_ | apply lD_ | refine lS_ ?_ (IsS67.ge HI426.out)) | exact HB.out)); rintro e w10 ⟨rfl, hi, hb, hk⟩; replace HI426 := Aside0.mk (hi); replace HB := Aside0.mk (hb); clear hb hk hi))
   go_loopg [9] kj1 (fun kq v9 w' => ∃ (x9_2 : List ByteArray) (x427000_2 : ByteArray) (x427001_2 : Bool), Aside0 (key_parts.l0 kq (wrap64 ((wrap64 (Int.tdiv (wrap64 ((a0.size : Int) - 2)) 32)) - 67)) t427 x9_2 x427000_2 x427001_2 = some (r1, r2, r3, r4)) ∧ Aside0 (kq ≤ kj1) ∧ Aside0 (Kd.R Kd.string 9 w' w.heap.size (fun _ => True) v9 x9_2) ∧ Aside0 (IsS67 w w' g426 x427000_2 x427001_2) ∧ Aside0 (Below w.heap.size w w'))
   case atStart => exact ⟨(([] : List ByteArray)), (t428), (t429), H', ⟨Nat.le_refl _⟩, ⟨by first | exact Kd.R_nil _ _ _ _ _ | exact Kd.N_nil _ _ _ _ _ | exact Kd.V_nil _ _ _ _ _ | exact Kd.Q_nil _ _ _ _ _ | exact Kd.S_nil _ _ _ _ _⟩, ⟨by repeat (first | (with_reducible first | exact HI426.out | apply IsS67.alloc | apply IsS67.drewN | apply IsS67.drew | apply IsS67.set_0 | apply IsS67.set_1) | exact HI426.out)⟩, ⟨bs_ (IsS67.ge HI426.out)⟩⟩
   case round =>
    clear H'
    obtain ⟨x9_2, x427000_2, x427001_2, HA, HK2, HO_9, HI426, HB⟩ := hrel
    cases gk with
    | zero => exact absurd HA.out (by simp [key_parts.l0])
    | succ k2 =>
     have H := HA.out
     clear HA
     simp only [key_parts.l0] at H
     replace H := ob_ H
     obtain ⟨⟨t430, t431, t432⟩, A110, H⟩ := H
     replace H : (if t430 > 0 then ((octets_Reader_Take.f k2 t431 t432 32).bind fun bt433 => (if x9_2.length < 8796093022208 then (key_parts.l0 k2 (wrap64 ((wrap64 (Int.tdiv (wrap64 ((a0.size : Int) - 2)) 32)) - 67)) t427 (x9_2 ++ [bt433.1]) bt433.2.1 bt433.2.2) else (none))) else (if 0 ≤ (wrap64 ((wrap64 (Int.tdiv (wrap64 ((a0.size : Int) - 2)) 32)) - 67)) then (if t427 ≥ (shl .i64 1 (wrap64 ((wrap64 (Int.tdiv (wrap64 ((a0.size : Int) - 2)) 32)) - 67))) then (some (0, ([] : List ByteArray), ([] : List ByteArray), false)) else (if 67 ≤ x9_2.length then (some (t427, x9_2.take 67, x9_2.drop 67, true)) else (none))) else (none))) = some (r1, r2, r3, r4) := H
     have A11 := Aside0.mk A110
     clear A110
     by_cases c12 : t430 > 0
     ·rw [if_pos c12] at H
      have c12b0 : decide (0 < t430) = true := decide_eq_true c12
      clear c12
      replace H := ob_ H
      obtain ⟨⟨t433, t434, t435⟩, A130, H⟩ := H
      replace H : (if x9_2.length < 8796093022208 then (key_parts.l0 k2 (wrap64 ((wrap64 (Int.tdiv (wrap64 ((a0.size : Int) - 2)) 32)) - 67)) t427 (x9_2 ++ [t433]) t434 t435) else (none)) = some (r1, r2, r3, r4) := H
      have A13 := Aside0.mk A130
      clear A130
      revert H; refine nc_ fun c14 H => ?_
      have LMc14 := Aside0.mk c14
      clear c14
      generalize e_ : (x9_2 ++ [t433] : List ByteArray) = y436 at H
      have Ny436 := Aside0.mk e_.symm
      clear e_
      have H' := Aside0.mk H
      clear H
      go_wp2_with (first | (go_at_call 50; (with_reducible refine (octets_Reader_Left.calls g426 x427000_2 x427001_2 t430 t431 t432 w _ ?side1 ?side2 A11.out).mono ?_); (case side1 => repeat (first | (with_reducible first | exact HI426.out | apply IsS67.alloc | apply IsS67.drewN | apply IsS67.drew | apply IsS67.set_0 | apply IsS67.set_1) | exact HI426.out)); (case side2 => repeat (first | (with_reducible first | exact HB.out | apply lA_ | apply lN_ | apply lD_ | refine lS_ ?_ (IsS67.ge HI426.out)) | exact HB.out)); rintro e w15 ⟨rfl, hi, hb, hk⟩; replace HB := Aside0.mk (hb); replace HO_9 := Aside0.mk (Kd.R_mono (Kd.R_keep (IsS67.apart (show IsS67 w _ g426 x427000_2 x427001_2 from by repeat (first | (with_reducible first | exact HI426.out | apply IsS67.alloc | apply IsS67.drewN | apply IsS67.drew | apply IsS67.set_0 | apply IsS67.set_1) | exact HI426.out)) (mv_ HO_9.out) (by decide)) hk (fun _ h => h.2)) (fun _ h => h.1)); replace HI426 := Aside0.mk (hi); clear hb hk hi) | (go_at_call 33; (with_reducible refine (octets_Reader_Take.calls k2 g426 t431 t432 32 t433 t434 t435 w _ ?side1 ?side2 A13.out).mono ?_); (case side1 => repeat (first | (with_reducible first | exact HI426.out | apply IsS67.alloc | apply IsS67.drewN | apply IsS67.drew | apply IsS67.set_0 | apply IsS67.set_1) | exact HI426.out)); (case side2 => repeat (first | (with_reducible first | exact HB.out | apply lA_ | apply lN_ | apply lD_ | refine lS_ ?_ (IsS67.ge HI426.out)) | exact HB.out)); rintro e w16 ⟨rfl, hi, hb, hk⟩; replace HB := Aside0.mk (hb); replace HO_9 := Aside0.mk (Kd.R_mono (Kd.R_keep (IsS67.apart (show IsS67 w _ g426 t431 t432 from by repeat (first | (with_reducible first | exact HI426.out | apply IsS67.alloc | apply IsS67.drewN | apply IsS67.drew | apply IsS67.set_0 | apply IsS67.set_1) | exact HI426.out)) (mv_ HO_9.out) (by decide)) hk (fun _ h => h.2)) (fun _ h => h.1)); replace HI426 := Aside0.mk (hi); clear hb hk hi) | ((with_reducible refine gate_builtin (b := .append) (xs := #[.tmp 40, .tmp 43]) rfl ?_); ((refine gate_guard (by rfl) ?_; dsimp only)); at_builtin; refine Kd.R_append Kd.string (w0 := w) w.heap.size rfl (.tmp 40) (.tmp 43) 22 9 (.string ⟨#[]⟩) 16 rfl Tryd.underlying22 info9 rfl (by decide) (by omega) u9 x9_2 t433 [.string t433] (fun _ => True) (fun _ => False) rfl rfl ?aP (fun _ hk => hk.elim) ?aF ?aO ?aB ?aS ?aL ?_; (case aP => exact rfl); (case aB => exact (bs_ (IsS67.ge HI426.out))); (case aF => exact (fun _ _ => trivial)); (case aO => exact (mv_ HO_9.out)); (case aS => exact (below_size (bs_ (IsS67.ge HI426.out)))); (case aL => have := LMc14.out; omega); intro v437 w17 ho hb hg hat; rw [← Ny436.out] at ho; have HO438 := Aside0.mk (ho); replace HB := Aside0.mk (hb); replace HI426 := Aside0.mk (IsS67.grown (by repeat (first | (with_reducible first | exact HI426.out | apply IsS67.alloc | apply IsS67.drewN | apply IsS67.drew | apply IsS67.set_0 | apply IsS67.set_1) | exact HI426.out)) hg (IsS67.own_ne HI426.out HO_9.out (by decide))); clear HO_9; clear ho hb hg hat))
      go_roundg k2
      case measure => have := HJ1.out; have := HK2.out; omega
      case rel => exact ⟨(y436), (t434), (t435), H', ⟨by have := HJ1.out; have := HK2.out; omega⟩, ⟨mv_ HO438.out⟩, ⟨by repeat (first | (with_reducible first | exact HI426.out | apply IsS67.alloc | apply IsS67.drewN | apply IsS67.drew | apply IsS67.set_0 | apply IsS67.set_1) | exact HI426.out)⟩, ⟨bs_ (IsS67.ge HI426.out)⟩⟩
     rw [if_neg c12] at H
     have c12b0 : decide (0 < t430) = false := decide_eq_false c12
     clear c12
     generalize hji18 : (wrap64 ((wrap64 (Int.tdiv (wrap64 ((a0.size : Int) - 2)) 32)) - 67)) = ji18 at H
     have hji18w := (i64_w _).trans hji18
     revert H; refine ne_ fun c19 c19b0 c19b1 H => ?_
     clear c19
     generalize hji20 : (shl .i64 1 (ji18)) = ji20 at H
     have hji20_ : (IntKind.i64.wrap (1 * 2 ^ min (ji18).toNat 64)) = ji20 := hji20
     have hji20z : (ji18) ≤ 64 → (IntKind.i64.wrap (1 * 2 ^ (ji18).toNat)) = ji20 := shl_small hji20
     have hji20u : (IntKind.i64.wrap (2 ^ min (ji18).toNat 64)) = ji20 := by have h_ := hji20_; rw [Int.one_mul] at h_; exact h_
     have hji20v : (ji18) ≤ 64 → (IntKind.i64.wrap (2 ^ (ji18).toNat)) = ji20 := fun hle_ => by have h_ := hji20z hle_; rw [Int.one_mul] at h_; exact h_
     have hji20y : (wrap64 (1 * 2 ^ min (ji18).toNat 64)) = ji20 := (i64_w _).symm.trans hji20_
     have hji20x : (ji18) ≤ 64 → (wrap64 (1 * 2 ^ (ji18).toNat)) = ji20 := fun h_ => (i64_w _).symm.trans (hji20z h_)
     by_cases c21 : t427 ≥ (ji20)
     ·rw [if_pos c21] at H
      have c21b0 : decide ((ji20) ≤ t427) = true := decide_eq_true c21
      clear c21
      simp only [Option.some.injEq, Prod.mk.injEq] at H
      obtain ⟨rfl, rfl, rfl, rfl⟩ := H
      go_wp2_with (first | (go_at_call 50; (with_reducible refine (octets_Reader_Left.calls g426 x427000_2 x427001_2 t430 t431 t432 w _ ?side1 ?side2 A11.out).mono ?_); (case side1 => repeat (first | (with_reducible first | exact HI426.out | apply IsS67.alloc | apply IsS67.drewN | apply IsS67.drew | apply IsS67.set_0 | apply IsS67.set_1) | exact HI426.out)); (case side2 => repeat (first | (with_reducible first | exact HB.out | apply lA_ | apply lN_ | apply lD_ | refine lS_ ?_ (IsS67.ge HI426.out)) | exact HB.out)); rintro e w22 ⟨rfl, hi, hb, hk⟩; replace HB := Aside0.mk (hb); replace HO_9 := Aside0.mk (Kd.R_mono (Kd.R_keep (IsS67.apart (show IsS67 w _ g426 x427000_2 x427001_2 from by repeat (first | (with_reducible first | exact HI426.out | apply IsS67.alloc | apply IsS67.drewN | apply IsS67.drew | apply IsS67.set_0 | apply IsS67.set_1) | exact HI426.out)) (mv_ HO_9.out) (by decide)) hk (fun _ h => h.2)) (fun _ h => h.1)); replace HI426 := Aside0.mk (hi); clear hb hk hi))
      refine bodyPost_ret (results_list (rs := [.tmp 2, .tmp 3, .tmp 4, .tmp 5]) rfl (by simp) (.tmp (.tmp (.tmp (.tmp .nil))))) rfl ?_
      exact ⟨none, none, 0, 0, by first | rfl | (simp [errW_none, errW_some] <;> rfl) | (simp only [← hji18, ← hji20]; first | rfl | (simp [errW_none, errW_some] <;> rfl)) | (simp [*, errW_none, errW_some] <;> rfl), Kd.C_nil _ _, Nat.le_refl _, Kd.C_nil _ _, Nat.le_refl _, bs_ (IsS67.ge HI426.out)⟩
     rw [if_neg c21] at H
     have c21b0 : decide ((ji20) ≤ t427) = false := decide_eq_false c21
     clear c21
     have c67_ : 67 ≤ x9_2.length := by by_cases z_ : 67 ≤ x9_2.length <;> first | exact z_ | (rw [if_neg z_] at H; cases H)
     rw [if_pos c67_] at H
     obtain ⟨A_, c_, e_⟩ := Kd.R_slice HO_9.out
     subst e_
     have hc_ := (Kd.R_reads' HO_9.out).2.1
     obtain ⟨i0_, hi0_, _, hsz_, _⟩ := info_parts info9
     have k1_ := cut_to (P := Tryd.prog) 22 9 .i64 Tryd.underlying22 hi0_ A_ x9_2.length c_ 67 (by decide) (by omega) hc_
     have k2_ := cut_from (P := Tryd.prog) 22 9 .i64 Tryd.underlying22 hi0_ 1 hsz_ A_ x9_2.length c_ 67 (by decide) (by omega)
     obtain ⟨A2_, hA2_⟩ : ∃ z : Option Addr, (if c_ = 67 then A_ else A_.map (·.add (67 * 1))) = z := ⟨_, rfl⟩
     replace k2_ : ∀ W : World, (Instr.slice 22 (.slice A_ x9_2.length c_) (some (.int .i64 67)) none none).run Tryd.prog W = .ok (.slice A2_ (x9_2.length - 67) (c_ - 67)) W := by intro W; rw [k2_ W]; show Result.ok (Value.slice (if c_ = 67 then A_ else A_.map (·.add (67 * 1))) _ _) W = _; rw [hA2_]; rfl
     replace k1_ : ∀ W : World, (Instr.slice 22 (.slice A_ x9_2.length c_) none (some (.int .i64 67)) none).run Tryd.prog W = .ok (.slice A_ 67 c_) W := k1_
     simp only [Option.some.injEq, Prod.mk.injEq] at H
     obtain ⟨rfl, rfl, rfl, rfl⟩ := H
     go_wp2_with (first | (go_at_call 50; (with_reducible refine (octets_Reader_Left.calls g426 x427000_2 x427001_2 t430 t431 t432 w _ ?side1 ?side2 A11.out).mono ?_); (case side1 => repeat (first | (with_reducible first | exact HI426.out | apply IsS67.alloc | apply IsS67.drewN | apply IsS67.drew | apply IsS67.set_0 | apply IsS67.set_1) | exact HI426.out)); (case side2 => repeat (first | (with_reducible first | exact HB.out | apply lA_ | apply lN_ | apply lD_ | refine lS_ ?_ (IsS67.ge HI426.out)) | exact HB.out)); rintro e w23 ⟨rfl, hi, hb, hk⟩; replace HB := Aside0.mk (hb); replace HO_9 := Aside0.mk (Kd.R_mono (Kd.R_keep (IsS67.apart (show IsS67 w _ g426 x427000_2 x427001_2 from by repeat (first | (with_reducible first | exact HI426.out | apply IsS67.alloc | apply IsS67.drewN | apply IsS67.drew | apply IsS67.set_0 | apply IsS67.set_1) | exact HI426.out)) (mv_ HO_9.out) (by decide)) hk (fun _ h => h.2)) (fun _ h => h.1)); replace HI426 := Aside0.mk (hi); clear hb hk hi))
     repeat (go_quiet (fail); try go_wp2)
     refine bodyPost_ret (results_list (rs := [.tmp 2, .tmp 3, .tmp 4, .tmp 5]) rfl (by simp) (.tmp (.tmp (.tmp (.tmp .nil))))) rfl ?_
     have hC_ := (Kd.R_reads' HO_9.out).2.2
     have l1_ : (x9_2.take 67).length = 67 := by rw [List.length_take]; omega
     have l2_ : (x9_2.drop 67).length = x9_2.length - 67 := List.length_drop
     have hT_ := Kd.C_take (m := 67) hC_ c67_
     have hD_ := Kd.C_drop (m := 67) hC_ c67_ hc_
     rw [show (if c_ = 67 then A_ else A_.map (·.add (67 * Kd.string.sz))) = A2_ from hA2_] at hD_
     exact ⟨A_, A2_, c_, c_ - 67, by rw [l1_, l2_]; rfl, by (with_reducible repeat (first | apply Kd.C_alloc | apply Kd.C_drewN | apply Kd.C_drew)); exact hT_, by omega, by (with_reducible repeat (first | apply Kd.C_alloc | apply Kd.C_drewN | apply Kd.C_drew)); exact hD_, by omega, bs_ (IsS67.ge HI426.out)⟩

/-! ### wots_Digits: function 82 -/
def wots_Digits.l0 : Nat → List Int → Int → List Int → Int → Int → Option (List Int × Bool)
 | 0, _, _, _, _, _ => none
 | k + 1, x4, x5, x12, x13, x14 => if x14 < x13 then (if 0 ≤ x14 then (if x14 < (x12.length : Int) then ((some (([wrap64 ((rd x12 x14) / 16), wrap64 (Go.bits .and .u8 (rd x12 x14) 15)] : List Int) : List Int)).bind fun y443 => (if x4.length + y443.length < 17592186044416 then (wots_Digits.l0 k (x4 ++ y443) (wrap64 (x5 + (wrap64 ((wrap64 (30 - (wrap64 ((rd x12 x14) / 16)))) - (wrap64 (Go.bits .and .u8 (rd x12 x14) 15)))))) x12 x13 (wrap64 (x14 + 1))) else (none))) else (none)) else (none)) else ((some (([x5 / 256, Go.bits .and .i64 (x5 / 16) 15, Go.bits .and .i64 x5 15] : List Int) : List Int)).bind fun y449 => (if x4.length + y449.length < 17592186044416 then (some ((x4 ++ y449), true)) else (none)))
def wots_Digits.f (k : Nat) (a0 : ByteArray) : Option (List Int × Bool) := if (a0.size : Int) = 32 then (if a0.size ≤ 9223372036854775807 then ((some (bytesOf a0 : List Int)).bind fun y439 => (wots_Digits.l0 k ([] : List Int) 0 y439 (y439.length : Int) 0)) else (none)) else (some (([] : List Int), false))
theorem wots_Digits.mono_l : ∀ k, (∀ y0 y1 y2 y3 y4, LeO (wots_Digits.l0 k y0 y1 y2 y3 y4) (wots_Digits.l0 (k + 1) y0 y1 y2 y3 y4))
 | 0 => fun _ _ _ _ _ r h => by simp [wots_Digits.l0] at h
 | k + 1 => by
  have ih0 := wots_Digits.mono_l k
  ·intro y0 y1 y2 y3 y4
   unfold wots_Digits.l0
   repeat' first
   | (with_reducible exact ih0 _ _ _ _ _)
   | (with_reducible exact LeO.refl _)
   | (with_reducible exact LeO.none _)
   | (with_reducible refine LeO.ite ?_ ?_)
   | (with_reducible refine LeO.bind ?_ (fun _ => ?_))
   | exact ih0 _ _ _ _ _
   | exact LeO.none _
   | refine LeO.ite ?_ ?_
   | refine LeO.bind ?_ (fun _ => ?_)
theorem wots_Digits.mono : ∀ a0 k, LeO (wots_Digits.f k a0) (wots_Digits.f (k + 1) a0) := by
 intro a0 k
 have ih0 := wots_Digits.mono_l k
 unfold wots_Digits.f
 repeat' first
  | (with_reducible exact ih0 _ _ _ _ _)
  | (with_reducible exact LeO.refl _)
  | (with_reducible exact LeO.none _)
  | (with_reducible refine LeO.ite ?_ ?_)
  | (with_reducible refine LeO.bind ?_ (fun _ => ?_))
  | exact ih0 _ _ _ _ _
  | exact LeO.none _
  | refine LeO.ite ?_ ?_
  | refine LeO.bind ?_ (fun _ => ?_)
set_option maxHeartbeats 64000000 in
set_option maxRecDepth 100000 in
theorem wots_Digits.calls (k : Nat) (a0 : ByteArray) (r1 : List Int) (r2 : Bool) (w : World) (h : wots_Digits.f k a0 = some (r1, r2)) :
 Calls Tryd.prog 82 #[.string a0] w fun e w' => ∃ v0_ : Value, e = .returned (.tuple #[v0_, .bool r2]) ∧ Kd.R (Kd.int .i64) 3 w' w.heap.size (fun _ => True) v0_ r1 ∧ Below w.heap.size w w' := by
 have HB := Aside0.mk (Below.refl w.heap.size w)
 have H : (if (a0.size : Int) = 32 then (if a0.size ≤ 9223372036854775807 then ((some (bytesOf a0 : List Int)).bind fun y439 => (wots_Digits.l0 k ([] : List Int) 0 y439 (y439.length : Int) 0)) else (none)) else (some (([] : List Int), false))) = some (r1, r2) := h
 clear h
 by_cases c2 : (a0.size : Int) = 32
 ·rw [if_pos c2] at H
  have c2b0 : ((a0.size : Int) == 32) = true := beq_iff_eq.mpr c2
  have c2b1 : ((a0.size : Int) != 32) = false := bne_eq_false_iff_eq.mpr c2
  clear c2
  revert H; refine ne_ fun c3 c3b0 c3b1 => oy_ fun y439 Ny439 H => ?_
  try have c3b2 : (9223372036854775807 < a0.size) = False := eq_false (Nat.not_lt.2 c3)
  clear c3
  have H' := Aside0.mk H
  clear H
  go_enter Tryd.func82, Tryd.ntmps82
  go_wp2_with (first | ((with_reducible refine gate_dst (N := 12) rfl ?_); refine conv_V_event (P := Tryd.prog) rfl (N := 12) rfl 9 42 5 _ rfl a0 rfl Ny439.out Tryd.underlying9 Tryd.underlying42 Tryd.underlying5 (ae_) ?_; intro v440 w4 hv_ hb; have HO441 := Aside0.mk (Kd.V_lower (Kd.V_mono (ok' := fun k_ => True) hv_ (fun k_ hk_ => trivial)) (below_size bl_)); replace HB := Aside0.mk (below_step bl_ hb); clear hb hv_; obtain ⟨Ao5, co5, eo5⟩ := Kd.V_slice HO441.out; subst eo5))
  go_loopg [4, 5, 14] k (fun kq v4 v5 v14 w' => ∃ (x4_1 : List Int) (x5_1 : Int) (x14_1 : Int), v5 = .int .i64 x5_1 ∧ v14 = .int .i64 x14_1 ∧ Aside0 (wots_Digits.l0 kq x4_1 x5_1 y439 (y439.length : Int) x14_1 = some (r1, r2)) ∧ Aside0 (kq ≤ k) ∧ Aside0 (Kd.R (Kd.int .i64) 3 w' w.heap.size (fun _ => True) v4 x4_1) ∧ Aside0 (Kd.V (Kd.int .u8) 5 w' w.heap.size (fun k_ => some k_ ≠ (v4 : Value).ownBlock) (.slice Ao5 y439.length co5) y439) ∧ Aside0 (Below w.heap.size w w'))
  case atStart => exact ⟨(([] : List Int)), (0), (0), vq_, vq_, H', ⟨Nat.le_refl _⟩, ⟨by first | exact Kd.R_nil _ _ _ _ _ | exact Kd.N_nil _ _ _ _ _ | exact Kd.V_nil _ _ _ _ _ | exact Kd.Q_nil _ _ _ _ _ | exact Kd.S_nil _ _ _ _ _⟩, ⟨by (with_reducible repeat (first | apply Kd.V_alloc | apply Kd.V_drewN | apply Kd.V_drew)); exact Kd.V_mono HO441.out (fun _ hk => (by simp [Value.ownBlock]))⟩, ⟨bl_⟩⟩
  case round =>
   clear H'
   clear c2b0 c2b1 c3b0 c3b1 c3b2
   obtain ⟨x4_1, x5_1, x14_1, rfl, rfl, HA, HK1, HO_4, HO_12, HB⟩ := hrel
   cases gk with
   | zero => exact absurd HA.out (by simp [wots_Digits.l0])
   | succ k1 =>
    have H := HA.out
    clear HA
    simp only [wots_Digits.l0] at H
    by_cases c6 : x14_1 < (y439.length : Int)
    ·rw [if_pos c6] at H
     have c6b0 : decide (x14_1 < (y439.length : Int)) = true := decide_eq_true c6
     clear c6
     revert H; refine nd_ fun c7 c7b0 => nd_ fun c8 c8b0 => oy_ fun y443 Ny443 => nc_ fun c9 H => ?_
     have LMc9 := Aside0.mk c9
     clear c7 c8 c9
     generalize e_ : (x4_1 ++ y443 : List Int) = y446 at H
     have Ny446 := Aside0.mk e_.symm
     clear e_
     have H' := Aside0.mk H
     clear H
     have p442 : 0 ≤ (x14_1 : Int) := ae_
     have q442 : x14_1 < (y439.length : Int) := ae_
     obtain ⟨ad442, e442, hx442_0⟩ := Kd.at_int (Kd.V_reads' HO_12.out).2.2 x14_1 p442 q442
     cases e442
     replace p442 := eq_true p442
     replace q442 := eq_true q442
     go_wp2_with (first | ((with_reducible refine gate_dst (N := 25) rfl ?_); refine Kd.R_lit (Kd.int .i64) _ 3 ?hg (N := 25) ?hd (xs := ([wrap64 ((rd y439 x14_1) / 16), wrap64 (Go.bits .and .u8 (rd y439 x14_1) 15)] : List Int)) (inner := [.int .i64 (wrap64 ((rd y439 x14_1) / 16)), .int .i64 (wrap64 (Go.bits .and .u8 (rd y439 x14_1) 15))]) (ok := fun _ => True) (okp := fun _ => True) ?hr ?hp (fun _ hk => hk) trivial (Below.refl _ _) (Nat.le_refl _) (by simp) ?_; (case hd => rfl); (case hg => rfl); (case hr => exact gr_); (case hp => exact (Reps.one (show Kd.M (Kd.int .i64) _ _ _ (wrap64 ((rd y439 x14_1) / 16)) [.int .i64 (wrap64 ((rd y439 x14_1) / 16))] from rfl) (Reps.one (show Kd.M (Kd.int .i64) _ _ _ (wrap64 (Go.bits .and .u8 (rd y439 x14_1) 15)) [.int .i64 (wrap64 (Go.bits .and .u8 (rd y439 x14_1) 15))] from rfl) (Reps.none _ _)))); intro v444 w10 ho11 hb hg_ hnew_; clear hg_ hnew_; (first | rw [← Ny443.out] at ho11 | (simp only [Int.reduceToNat] at ho11; rw [← Ny443.out] at ho11)); have HO445 := Aside0.mk (Kd.R_lower (Kd.R_new' ho11 (Kd.R_lt (mv_ HO_4.out))) (below_size bl_)); replace HB := Aside0.mk (below_step bl_ hb); replace HO_12 := Aside0.mk (Kd.V_elder' (by (with_reducible repeat (first | apply Kd.V_alloc | apply Kd.V_drewN | apply Kd.V_drew)); exact HO_12.out) (Kd.R_base ho11) hb); replace HO_4 := Aside0.mk (Kd.R_elder' (mv_ HO_4.out) (Kd.R_base ho11) hb); clear hb ho11; obtain ⟨Ao13, co13, eo13⟩ := Kd.R_slice HO445.out; subst eo13) | ((with_reducible refine gate_builtin (b := .append) (xs := #[.tmp 18, .tmp 25]) rfl ?_); at_builtin; refine Kd.R_append_rows (Kd.int .i64) (w0 := w) w.heap.size rfl (.tmp 18) (.tmp 25) 116 3 (.int .i64 0) 8 rfl Tryd.underlying116 info3 rfl (by decide) (by omega) u4 x4_1 y443 _ _ _ (fun k_ => some k_ ≠ (.slice Ao13 y443.length co13 : Value).ownBlock) (fun _ => False) rfl rfl ?aO ?aR (fun _ _ h => h) (fun _ h => h.elim) ?aF ?aB ?aS ?aL ?_; (case aR => repeat (first | exact (Kd.R_reads' HO445.out).2.2 | (with_reducible refine Kd.C_alloc ?_ _) | (with_reducible refine Kd.C_drewN ?_ _) | (with_reducible refine Kd.C_drew ?_))); (case aB => exact bl_); (case aF => exact (fun k_ hk => Kd.fresh' (Kd.R_lt (mv_ HO445.out)) k_ hk)); (case aO => exact (by refine mv_ ?_; exact Kd.R_mono HO_4.out (fun _ hk => hk.2))); (case aS => exact (below_size bl_)); (case aL => have := LMc9.out; omega); intro v447 w12 ho hb hg hat; rw [← Ny446.out] at ho; have HO448 := Aside0.mk (ho); replace HB := Aside0.mk (hb); replace HO445 := Aside0.mk (Kd.R_after (ok := (fun _ => True)) (mv_ HO445.out) hg hat); replace HO_12 := Aside0.mk (Kd.V_afterv (ok := (fun k_ => some k_ ≠ (.slice Ao13 y443.length co13 : Value).ownBlock)) (by (with_reducible repeat (first | apply Kd.V_alloc | apply Kd.V_drewN | apply Kd.V_drew)); exact Kd.V_mono HO_12.out (fun _ hk => ⟨hk.2, hk.1⟩)) hg hat); clear HO_4; clear ho hb hg hat))
     go_roundg k1
     case measure => have := HK1.out; omega
     case rel => exact ⟨(y446), (wrap64 (x5_1 + (wrap64 ((wrap64 (30 - (wrap64 ((rd y439 x14_1) / 16)))) - (wrap64 (Go.bits .and .u8 (rd y439 x14_1) 15)))))), (wrap64 (x14_1 + 1)), vq_, vq_, H', ⟨by have := HK1.out; omega⟩, ⟨by refine mv_ ?_; exact Kd.R_mono HO448.out (fun _ hk => trivial)⟩, ⟨by (with_reducible repeat (first | apply Kd.V_alloc | apply Kd.V_drewN | apply Kd.V_drew)); exact Kd.V_mono HO_12.out (fun _ hk => hk.2)⟩, ⟨bl_⟩⟩
    rw [if_neg c6] at H
    have c6b0 : decide (x14_1 < (y439.length : Int)) = false := decide_eq_false c6
    clear c6
    revert H; refine oy_ fun y449 Ny449 => nc_ fun c14 H => ?_
    have LMc14 := Aside0.mk c14
    clear c14
    generalize e_ : (x4_1 ++ y449 : List Int) = y452 at H
    have Ny452 := Aside0.mk e_.symm
    clear e_
    simp only [Option.some.injEq, Prod.mk.injEq] at H
    obtain ⟨rfl, rfl⟩ := H
    go_wp2_with (first | ((with_reducible refine gate_dst (N := 46) rfl ?_); refine Kd.R_lit (Kd.int .i64) _ 3 ?hg (N := 46) ?hd (xs := ([x5_1 / 256, Go.bits .and .i64 (x5_1 / 16) 15, Go.bits .and .i64 x5_1 15] : List Int)) (inner := [.int .i64 (x5_1 / 256), .int .i64 (Go.bits .and .i64 (x5_1 / 16) 15), .int .i64 (Go.bits .and .i64 x5_1 15)]) (ok := fun _ => True) (okp := fun _ => True) ?hr ?hp (fun _ hk => hk) trivial (Below.refl _ _) (Nat.le_refl _) (by simp) ?_; (case hd => rfl); (case hg => rfl); (case hr => exact gr_); (case hp => exact (Reps.one (show Kd.M (Kd.int .i64) _ _ _ (x5_1 / 256) [.int .i64 (x5_1 / 256)] from rfl) (Reps.one (show Kd.M (Kd.int .i64) _ _ _ (Go.bits .and .i64 (x5_1 / 16) 15) [.int .i64 (Go.bits .and .i64 (x5_1 / 16) 15)] from rfl) (Reps.one (show Kd.M (Kd.int .i64) _ _ _ (Go.bits .and .i64 x5_1 15) [.int .i64 (Go.bits .and .i64 x5_1 15)] from rfl) (Reps.none _ _))))); intro v450 w15 ho16 hb hg_ hnew_; clear hg_ hnew_; (first | rw [← Ny449.out] at ho16 | (simp only [Int.reduceToNat] at ho16; rw [← Ny449.out] at ho16)); have HO451 := Aside0.mk (Kd.R_lower (Kd.R_new' ho16 (Kd.R_lt (mv_ HO_4.out))) (below_size bl_)); replace HB := Aside0.mk (below_step bl_ hb); replace HO_12 := Aside0.mk (Kd.V_elder' (by (with_reducible repeat (first | apply Kd.V_alloc | apply Kd.V_drewN | apply Kd.V_drew)); exact HO_12.out) (Kd.R_base ho16) hb); replace HO_4 := Aside0.mk (Kd.R_elder' (mv_ HO_4.out) (Kd.R_base ho16) hb); clear hb ho16; obtain ⟨Ao18, co18, eo18⟩ := Kd.R_slice HO451.out; subst eo18) | ((with_reducible refine gate_builtin (b := .append) (xs := #[.tmp 38, .tmp 46]) rfl ?_); at_builtin; refine Kd.R_append_rows (Kd.int .i64) (w0 := w) w.heap.size rfl (.tmp 38) (.tmp 46) 116 3 (.int .i64 0) 8 rfl Tryd.underlying116 info3 rfl (by decide) (by omega) u4 x4_1 y449 _ _ _ (fun k_ => some k_ ≠ (.slice Ao18 y449.length co18 : Value).ownBlock) (fun _ => False) rfl rfl ?aO ?aR (fun _ _ h => h) (fun _ h => h.elim) ?aF ?aB ?aS ?aL ?_; (case aR => repeat (first | exact (Kd.R_reads' HO451.out).2.2 | (with_reducible refine Kd.C_alloc ?_ _) | (with_reducible refine Kd.C_drewN ?_ _) | (with_reducible refine Kd.C_drew ?_))); (case aB => exact bl_); (case aF => exact (fun k_ hk => Kd.fresh' (Kd.R_lt (mv_ HO451.out)) k_ hk)); (case aO => exact (by refine mv_ ?_; exact Kd.R_mono HO_4.out (fun _ hk => hk.2))); (case aS => exact (below_size bl_)); (case aL => have := LMc14.out; omega); intro v453 w17 ho hb hg hat; rw [← Ny452.out] at ho; have HO454 := Aside0.mk (ho); replace HB := Aside0.mk (hb); replace HO451 := Aside0.mk (Kd.R_after (ok := (fun _ => True)) (mv_ HO451.out) hg hat); replace HO_12 := Aside0.mk (Kd.V_afterv (ok := (fun k_ => some k_ ≠ (.slice Ao18 y449.length co18 : Value).ownBlock)) (by (with_reducible repeat (first | apply Kd.V_alloc | apply Kd.V_drewN | apply Kd.V_drew)); exact Kd.V_mono HO_12.out (fun _ hk => ⟨hk.2, hk.1⟩)) hg hat); clear HO_4; clear ho hb hg hat))
    go_ret2
    exact ⟨_, er_, by refine mv_ ?_; exact Kd.R_mono HO454.out (fun _ hk => trivial), bl_⟩
 rw [if_neg c2] at H
 have c2b0 : ((a0.size : Int) == 32) = false := beq_eq_false_iff_ne.mpr c2
 have c2b1 : ((a0.size : Int) != 32) = true := bne_iff_ne.mpr c2
 simp only [Option.some.injEq, Prod.mk.injEq] at H
 obtain ⟨rfl, rfl⟩ := H
 go_enter Tryd.func82, Tryd.ntmps82
 go_wp2
 go_ret2
 exact ⟨_, er_, by first | exact Kd.R_nil _ _ _ _ _ | exact Kd.N_nil _ _ _ _ _ | exact Kd.V_nil _ _ _ _ _ | exact Kd.Q_nil _ _ _ _ _ | exact Kd.S_nil _ _ _ _ _, bl_⟩

/-! ### octets_Byte: function 84 -/
def octets_Byte.f (k : Nat) (a0 : Int) : Option (ByteArray × Bool) := (octets_laid.f k a0 1).bind fun bt455 => (some (bt455.1, bt455.2))
theorem octets_Byte.mono : ∀ a0 k, LeO (octets_Byte.f k a0) (octets_Byte.f (k + 1) a0) := by
 intro a0 k
 unfold octets_Byte.f
 repeat' first
  | (with_reducible exact octets_laid.mono _ _ _)
  | (with_reducible exact LeO.refl _)
  | (with_reducible exact LeO.none _)
  | (with_reducible refine LeO.ite ?_ ?_)
  | (with_reducible refine LeO.bind ?_ (fun _ => ?_))
  | exact octets_laid.mono _ _ _
  | exact LeO.none _
  | refine LeO.ite ?_ ?_
  | refine LeO.bind ?_ (fun _ => ?_)
set_option maxHeartbeats 64000000 in
set_option maxRecDepth 100000 in
theorem octets_Byte.calls (k : Nat) (a0 : Int) (r1 : ByteArray) (r2 : Bool) (w : World) (h : octets_Byte.f k a0 = some (r1, r2)) :
 Calls Tryd.prog 84 #[.int .i64 a0] w fun e w' => e = .returned (.tuple #[.string r1, .bool r2]) ∧ Below w.heap.size w w' := by
 have HB := Aside0.mk (Below.refl w.heap.size w)
 have H : ((octets_laid.f k a0 1).bind fun bt455 => (some (bt455.1, bt455.2))) = some (r1, r2) := h
 clear h
 replace H := ob_ H
 obtain ⟨⟨t455, t456⟩, A20, H⟩ := H
 replace H : (some (t455, t456)) = some (r1, r2) := H
 have A2 := Aside0.mk A20
 clear A20
 simp only [Option.some.injEq, Prod.mk.injEq] at H
 obtain ⟨rfl, rfl⟩ := H
 go_enter Tryd.func84, Tryd.ntmps84
 go_wp2_with (first | ((with_reducible refine gate_callee (f := 70) rfl ?_); refine gL_ 5 Tryd.func70 #[.int .i64 a0, .int .i64 1] ?_; (with_reducible refine (octets_laid.calls k a0 1 t455 t456 _ A2.out).mono ?_); rintro e w3 ⟨rfl, hb⟩; refine ⟨_, rfl, ?_⟩; replace HB := Aside0.mk (below_step bl_ hb); clear hb))
 go_ret2
 exact ⟨er_, bl_⟩

/-! ### wots_Chain: function 83 -/
def wots_Chain.l0 : Nat → ByteArray → ByteArray → Int → Int → Option (ByteArray)
 | 0, _, _, _, _ => none
 | k + 1, x1, x7, x17, x18 => if x18 < x17 then ((sha_Tag.f k 1 (([x7, x1] : List ByteArray))).bind fun t462 => (wots_Chain.l0 k t462 x7 x17 (wrap64 (x18 + 1)))) else (some x1)
def wots_Chain.f (k : Nat) (a0 : Int) (a1 : ByteArray) (a2 : Int) : Option (ByteArray) := (octets_Byte.f k (Go.bits .and .i64 a0 255)).bind fun bt457 => (wots_Chain.l0 k a1 bt457.1 (mn (mx a2 0) 1000) 0)
theorem wots_Chain.mono_l : ∀ k, (∀ y0 y1 y2 y3, LeO (wots_Chain.l0 k y0 y1 y2 y3) (wots_Chain.l0 (k + 1) y0 y1 y2 y3))
 | 0 => fun _ _ _ _ r h => by simp [wots_Chain.l0] at h
 | k + 1 => by
  have ih0 := wots_Chain.mono_l k
  ·intro y0 y1 y2 y3
   unfold wots_Chain.l0
   repeat' first
   | (with_reducible exact ih0 _ _ _ _)
   | (with_reducible exact octets_Byte.mono _ _)
   | (with_reducible exact sha_Tag.mono _ _ _)
   | (with_reducible exact LeO.refl _)
   | (with_reducible exact LeO.none _)
   | (with_reducible refine LeO.ite ?_ ?_)
   | (with_reducible refine LeO.bind ?_ (fun _ => ?_))
   | exact ih0 _ _ _ _
   | exact octets_Byte.mono _ _
   | exact sha_Tag.mono _ _ _
   | exact LeO.none _
   | refine LeO.ite ?_ ?_
   | refine LeO.bind ?_ (fun _ => ?_)
theorem wots_Chain.mono : ∀ a0 a1 a2 k, LeO (wots_Chain.f k a0 a1 a2) (wots_Chain.f (k + 1) a0 a1 a2) := by
 intro a0 a1 a2 k
 have ih0 := wots_Chain.mono_l k
 unfold wots_Chain.f
 repeat' first
  | (with_reducible exact ih0 _ _ _ _)
  | (with_reducible exact octets_Byte.mono _ _)
  | (with_reducible exact sha_Tag.mono _ _ _)
  | (with_reducible exact LeO.refl _)
  | (with_reducible exact LeO.none _)
  | (with_reducible refine LeO.ite ?_ ?_)
  | (with_reducible refine LeO.bind ?_ (fun _ => ?_))
  | exact ih0 _ _ _ _
  | exact octets_Byte.mono _ _
  | exact sha_Tag.mono _ _ _
  | exact LeO.none _
  | refine LeO.ite ?_ ?_
  | refine LeO.bind ?_ (fun _ => ?_)
set_option maxHeartbeats 64000000 in
set_option maxRecDepth 100000 in
theorem wots_Chain.calls (k : Nat) (a0 : Int) (a1 : ByteArray) (a2 : Int) (r : ByteArray) (w : World) (hrG : Kd.C (Kd.int .u32) w (some ⟨0, 0, none⟩) keysL.length keysL) (h : wots_Chain.f k a0 a1 a2 = some r) :
 Calls Tryd.prog 83 #[.int .i64 a0, .string a1, .int .i64 a2] w fun e w' => e = .returned (.string r) ∧ Below w.heap.size w w' := by
 have HRG := Aside0.mk hrG
 clear hrG
 have HB := Aside0.mk (Below.refl w.heap.size w)
 have H : ((octets_Byte.f k (Go.bits .and .i64 a0 255)).bind fun bt457 => (wots_Chain.l0 k a1 bt457.1 (mn (mx a2 0) 1000) 0)) = some r := h
 clear h
 replace H := ob_ H
 obtain ⟨⟨t457, t458⟩, A40, H⟩ := H
 replace H : (wots_Chain.l0 k a1 t457 (mn (mx a2 0) 1000) 0) = some r := H
 have A4 := Aside0.mk A40
 clear A40
 generalize hji5 : (mx a2 0) = ji5 at H
 (have hji5l : 0 ≤ ji5 := by (rw [← hji5]; unfold mx; (repeat' split) <;> omega))
 (have hji5m : 0 ≤ ji5 := by omega)
 have hji5_ : (if a2 < 0 then 0 else a2) = ji5 := hji5
 generalize hji6 : (mn (ji5) 1000) = ji6 at H
 have hji6_ : (if 1000 < (ji5) then 1000 else (ji5)) = ji6 := hji6
 have H' := Aside0.mk H
 clear H
 go_enter Tryd.func83, Tryd.ntmps83
 go_wp2_with (first | ((with_reducible refine gate_callee (f := 84) rfl ?_); refine gL_ 12 Tryd.func84 #[.int .i64 (Go.bits .and .i64 a0 255)] ?_; (with_reducible refine (octets_Byte.calls k (Go.bits .and .i64 a0 255) t457 t458 _ A4.out).mono ?_); rintro e w7 ⟨rfl, hb⟩; refine ⟨_, rfl, ?_⟩; replace HB := Aside0.mk (below_step bl_ hb); clear hb))
 go_loopg [1, 18] k (fun kq v1 v18 w' => ∃ (x1_1 : ByteArray) (x18_1 : Int), v1 = .string x1_1 ∧ v18 = .int .i64 x18_1 ∧ Aside0 (wots_Chain.l0 kq x1_1 t457 ji6 x18_1 = some r) ∧ Aside0 (kq ≤ k) ∧ Aside0 (Below w.heap.size w w'))
 case atStart => exact ⟨(a1), (0), vq_, vq_, H', ⟨Nat.le_refl _⟩, ⟨bl_⟩⟩
 case round =>
  clear H'
  obtain ⟨x1_1, x18_1, rfl, rfl, HA, HK1, HB⟩ := hrel
  cases gk with
  | zero => exact absurd HA.out (by simp [wots_Chain.l0])
  | succ k1 =>
   have H := HA.out
   clear HA
   simp only [wots_Chain.l0] at H
   by_cases c8 : x18_1 < ji6
   ·rw [if_pos c8] at H
    have c8b0 : decide (x18_1 < ji6) = true := decide_eq_true c8
    clear c8
    generalize e_ : (([t457, x1_1] : List ByteArray) : List ByteArray) = y459 at H
    have Ny459 := Aside0.mk e_.symm
    clear e_
    revert H; refine oa_ fun t462 A9 H => ?_
    have H' := Aside0.mk H
    clear H
    go_wp2_with (first | ((with_reducible refine gate_dst (N := 22) rfl ?_); refine Kd.R_lit Kd.string _ 9 ?hg (N := 22) ?hd (xs := ([t457, x1_1] : List ByteArray)) (inner := [.string t457, .string x1_1]) (ok := fun _ => True) (okp := fun _ => True) ?hr ?hp (fun _ hk => hk) trivial (Below.refl _ _) (Nat.le_refl _) (by simp) ?_; (case hd => rfl); (case hg => rfl); (case hr => exact gr_); (case hp => exact (Reps.one (show Kd.M Kd.string _ _ _ t457 [.string t457] from rfl) (Reps.one (show Kd.M Kd.string _ _ _ x1_1 [.string x1_1] from rfl) (Reps.none _ _)))); intro v460 w10 ho11 hb hg_ hnew_; clear hg_ hnew_; (first | rw [← Ny459.out] at ho11 | (simp only [Int.reduceToNat] at ho11; rw [← Ny459.out] at ho11)); have HO461 := Aside0.mk (Kd.R_lower ho11 (below_size bl_)); replace HB := Aside0.mk (below_step bl_ hb); clear hb ho11; obtain ⟨Ao12, co12, eo12⟩ := Kd.R_slice HO461.out; subst eo12) | ((with_reducible refine gate_callee (f := 36) rfl ?_); refine gL_ 23 Tryd.func36 #[.int .i64 1, .slice Ao12 y459.length co12] ?_; (with_reducible refine (sha_Tag.calls k1 1 _ _ y459 t462 _ ?side1 ?side2 ?side3 A9.out).mono ?_); (case side1 => repeat (first | exact (Kd.R_reads' HO461.out).2.2 | (with_reducible refine Kd.C_alloc ?_ _) | (with_reducible refine Kd.C_drewN ?_ _) | (with_reducible refine Kd.C_drew ?_))); (case side2 => exact (Kd.R_reads' HO461.out).2.1); (case side3 => repeat (first | exact (Kd.C_below HRG.out HB.out) | (with_reducible refine Kd.C_alloc ?_ _) | (with_reducible refine Kd.C_drewN ?_ _) | (with_reducible refine Kd.C_drew ?_))); rintro e w13 ⟨rfl, hb⟩; refine ⟨_, rfl, ?_⟩; replace HB := Aside0.mk (below_step bl_ hb); replace HO461 := Aside0.mk (Kd.R_below (mv_ HO461.out) hb); clear hb))
    go_roundg k1
    case measure => have := HK1.out; omega
    case rel => exact ⟨(t462), (wrap64 (x18_1 + 1)), vq_, vq_, H', ⟨by have := HK1.out; omega⟩, ⟨bl_⟩⟩
   rw [if_neg c8] at H
   have c8b0 : decide (x18_1 < ji6) = false := decide_eq_false c8
   clear c8
   obtain rfl := Option.some.inj H
   go_wp2
   go_ret
   exact ⟨by first | rfl | (simp [errW_none, errW_some] <;> rfl) | (simp only [← hji5, ← hji6]; first | rfl | (simp [errW_none, errW_some] <;> rfl)) | (simp [*, errW_none, errW_some] <;> rfl), bl_⟩

/-! ### wots_Recover: function 60 -/
mutual
def wots_Recover.j0 : Nat → List ByteArray → List Int → Bool → Option (ByteArray × Bool)
 | 0, _, _, _ => none
 | k + 1, x1, x6, x22 => if x22 = true then (some ((⟨#[]⟩ : ByteArray), false)) else (wots_Recover.l0 k x6 ([] : List ByteArray) x1 (x1.length : Int) 0)
def wots_Recover.l0 : Nat → List Int → List ByteArray → List ByteArray → Int → Int → Option (ByteArray × Bool)
 | 0, _, _, _, _, _ => none
 | k + 1, x6, x8, x23, x24, x25 => if x25 < x24 then (if 0 ≤ x25 then (if x25 < (x23.length : Int) then (if x25 < (x6.length : Int) then ((wots_Chain.f k x25 (rdOf ByteArray.empty x23 x25) (wrap64 (15 - (rd x6 x25)))).bind fun t469 => (if x8.length < 8796093022208 then (wots_Recover.l0 k x6 (x8 ++ [t469]) x23 x24 (wrap64 (x25 + 1))) else (none))) else (none)) else (none)) else (none)) else ((sha_Tag.f k 3 x8).bind fun t473 => (some (t473, true)))
end
def wots_Recover.f (k : Nat) (a0 : ByteArray) (l1 : List ByteArray) : Option (ByteArray × Bool) := (wots_Digits.f k a0).bind fun bt463 => (if bt463.2 = true then (wots_Recover.j0 k l1 bt463.1 ((l1.length : Int) != 67)) else (wots_Recover.j0 k l1 bt463.1 true))
theorem wots_Recover.mono_l : ∀ k, (∀ y0 y1 y2, LeO (wots_Recover.j0 k y0 y1 y2) (wots_Recover.j0 (k + 1) y0 y1 y2)) ∧ (∀ y0 y1 y2 y3 y4, LeO (wots_Recover.l0 k y0 y1 y2 y3 y4) (wots_Recover.l0 (k + 1) y0 y1 y2 y3 y4))
 | 0 => ⟨fun _ _ _ r h => by simp [wots_Recover.j0] at h, fun _ _ _ _ _ r h => by simp [wots_Recover.l0] at h⟩
 | k + 1 => by
  obtain ⟨ih0, ih1⟩ := wots_Recover.mono_l k
  refine ⟨?_, ?_⟩ <;> intros <;> (first | unfold wots_Recover.j0 | unfold wots_Recover.l0) <;> repeat' first
  | (with_reducible exact ih0 _ _ _)
  | (with_reducible exact ih1 _ _ _ _ _)
  | (with_reducible exact sha_Tag.mono _ _ _)
  | (with_reducible exact wots_Chain.mono _ _ _ _)
  | (with_reducible exact wots_Digits.mono _ _)
  | (with_reducible exact LeO.refl _)
  | (with_reducible exact LeO.none _)
  | (with_reducible refine LeO.ite ?_ ?_)
  | (with_reducible refine LeO.bind ?_ (fun _ => ?_))
  | exact ih0 _ _ _
  | exact ih1 _ _ _ _ _
  | exact sha_Tag.mono _ _ _
  | exact wots_Chain.mono _ _ _ _
  | exact wots_Digits.mono _ _
  | exact LeO.none _
  | refine LeO.ite ?_ ?_
  | refine LeO.bind ?_ (fun _ => ?_)
theorem wots_Recover.mono : ∀ a0 a1 k, LeO (wots_Recover.f k a0 a1) (wots_Recover.f (k + 1) a0 a1) := by
 intro a0 a1 k
 obtain ⟨ih0, ih1⟩ := wots_Recover.mono_l k
 unfold wots_Recover.f
 repeat' first
  | (with_reducible exact ih0 _ _ _)
  | (with_reducible exact ih1 _ _ _ _ _)
  | (with_reducible exact sha_Tag.mono _ _ _)
  | (with_reducible exact wots_Chain.mono _ _ _ _)
  | (with_reducible exact wots_Digits.mono _ _)
  | (with_reducible exact LeO.refl _)
  | (with_reducible exact LeO.none _)
  | (with_reducible refine LeO.ite ?_ ?_)
  | (with_reducible refine LeO.bind ?_ (fun _ => ?_))
  | exact ih0 _ _ _
  | exact ih1 _ _ _ _ _
  | exact sha_Tag.mono _ _ _
  | exact wots_Chain.mono _ _ _ _
  | exact wots_Digits.mono _ _
  | exact LeO.none _
  | refine LeO.ite ?_ ?_
  | refine LeO.bind ?_ (fun _ => ?_)
set_option maxHeartbeats 64000000 in
set_option maxRecDepth 100000 in
theorem wots_Recover.calls (k : Nat) (a0 : ByteArray) (A1 : Option Addr) (c1 : Nat) (l1 : List ByteArray) (r1 : ByteArray) (r2 : Bool) (w : World) (hr1 : Kd.C Kd.string w A1 l1.length l1) (hc1 : l1.length ≤ c1) (hrG : Kd.C (Kd.int .u32) w (some ⟨0, 0, none⟩) keysL.length keysL) (h : wots_Recover.f k a0 l1 = some (r1, r2)) :
 Calls Tryd.prog 60 #[.string a0, .slice A1 l1.length c1] w fun e w' => e = .returned (.tuple #[.string r1, .bool r2]) ∧ Below w.heap.size w w' := by
 have HR1 := Aside0.mk hr1
 have HC1 := Aside0.mk hc1
 clear hr1 hc1
 have HRG := Aside0.mk hrG
 clear hrG
 have HB := Aside0.mk (Below.refl w.heap.size w)
 have H : ((wots_Digits.f k a0).bind fun bt463 => (if bt463.2 = true then (wots_Recover.j0 k l1 bt463.1 ((l1.length : Int) != 67)) else (wots_Recover.j0 k l1 bt463.1 true))) = some (r1, r2) := h
 clear h
 replace H := ob_ H
 obtain ⟨⟨t463, t464⟩, A30, H⟩ := H
 replace H : (if t464 = true then (wots_Recover.j0 k l1 t463 ((l1.length : Int) != 67)) else (wots_Recover.j0 k l1 t463 true)) = some (r1, r2) := H
 have A3 := Aside0.mk A30
 clear A30
 have HC4 := Aside0.mk H
 clear H
 go_enter Tryd.func60, Tryd.ntmps60
 go_upto_region 2 with (first | ((with_reducible refine gate_callee (f := 82) rfl ?_); refine gL_ 13 Tryd.func82 #[.string a0] ?_; (with_reducible refine (wots_Digits.calls k a0 t463 t464 _ A3.out).mono ?_); rintro e w5 ⟨v465, rfl, ho0, hb⟩; refine ⟨_, rfl, ?_⟩; have HO466 := Aside0.mk (Kd.R_lower ho0 (below_size bl_)); replace HB := Aside0.mk (below_step bl_ hb); clear hb ho0))
 go_cut [22] (fun v22 wc => ∃ (kq : Nat) (x22_3 : Bool), v22 = .bool x22_3 ∧ Aside0 (wots_Recover.j0 kq l1 t463 x22_3 = some (r1, r2)) ∧ Aside0 (kq ≤ k) ∧ Aside0 (Kd.R (Kd.int .i64) 3 wc w.heap.size (fun _ => True) v465 t463) ∧ Aside0 (Below w.heap.size w wc))
 case first =>
  have H := HC4.out
  clear HC4
  by_cases c6 : t464 = true
  ·subst c6
   have H1 : (wots_Recover.j0 k l1 t463 ((l1.length : Int) != 67)) = some (r1, r2) := by rw [if_pos rfl] at H; exact H
   clear H
   have H := H1
   clear H1
   have H' := Aside0.mk H
   clear H
   go_wp2
   go_meet
   case rel => exact ⟨_, (((l1.length : Int) != 67)), vq_, H', ⟨by first | omega | exact Nat.le_refl _⟩, ⟨mv_ HO466.out⟩, ⟨bl_⟩⟩
  replace c6 := Bool.eq_false_iff.mpr c6
  subst c6
  have H1 : (wots_Recover.j0 k l1 t463 true) = some (r1, r2) := by rw [if_neg (show ¬ (false = true) by decide)] at H; exact H
  clear H
  have H := H1
  clear H1
  have H' := Aside0.mk H
  clear H
  go_wp2
  go_meet
  case rel => exact ⟨_, (true), vq_, H', ⟨by first | omega | exact Nat.le_refl _⟩, ⟨mv_ HO466.out⟩, ⟨bl_⟩⟩
 case rest =>
  clear HC4
  obtain ⟨kq, x22_3, rfl, HA, HJ3, HO_6, HB⟩ := hcut
  cases kq with
  | zero => exact absurd HA.out (by simp [wots_Recover.j0])
  | succ kj3 =>
   have H := HA.out
   clear HA
   simp only [wots_Recover.j0] at H
   by_cases c7 : x22_3 = true
   ·subst c7
    have H1 : (some ((⟨#[]⟩ : ByteArray), false)) = some (r1, r2) := by rw [if_pos rfl] at H; exact H
    clear H
    have H := H1
    clear H1
    simp only [Option.some.injEq, Prod.mk.injEq] at H
    obtain ⟨rfl, rfl⟩ := H
    go_wp2
    go_ret2
    exact ⟨er_, bl_⟩
   replace c7 := Bool.eq_false_iff.mpr c7
   subst c7
   have H1 : (wots_Recover.l0 kj3 t463 ([] : List ByteArray) l1 (l1.length : Int) 0) = some (r1, r2) := by rw [if_neg (show ¬ (false = true) by decide)] at H; exact H
   clear H
   have H := H1
   clear H1
   have H' := Aside0.mk H
   clear H
   go_wp2
   go_loopg [8, 25] kj3 (fun kq v8 v25 w' => ∃ (x8_2 : List ByteArray) (x25_2 : Int), v25 = .int .i64 x25_2 ∧ Aside0 (wots_Recover.l0 kq t463 x8_2 l1 (l1.length : Int) x25_2 = some (r1, r2)) ∧ Aside0 (kq ≤ kj3) ∧ Aside0 (Kd.R (Kd.int .i64) 3 w' w.heap.size (fun _ => True) v465 t463) ∧ Aside0 (Kd.R Kd.string 9 w' w.heap.size (fun _ => True) v8 x8_2) ∧ Aside0 (Below w.heap.size w w'))
   case atStart => exact ⟨(([] : List ByteArray)), (0), vq_, H', ⟨Nat.le_refl _⟩, ⟨mv_ HO_6.out⟩, ⟨by first | exact Kd.R_nil _ _ _ _ _ | exact Kd.N_nil _ _ _ _ _ | exact Kd.V_nil _ _ _ _ _ | exact Kd.Q_nil _ _ _ _ _ | exact Kd.S_nil _ _ _ _ _⟩, ⟨bl_⟩⟩
   case round =>
    clear H'
    obtain ⟨x8_2, x25_2, rfl, HA, HK2, HO_6, HO_8, HB⟩ := hrel
    cases gk with
    | zero => exact absurd HA.out (by simp [wots_Recover.l0])
    | succ k2 =>
     have H := HA.out
     clear HA
     simp only [wots_Recover.l0] at H
     by_cases c8 : x25_2 < (l1.length : Int)
     ·rw [if_pos c8] at H
      have c8b0 : decide (x25_2 < (l1.length : Int)) = true := decide_eq_true c8
      clear c8
      revert H; refine nd_ fun c9 c9b0 => nd_ fun c10 c10b0 => nd_ fun c11 c11b0 => oa_ fun t469 A12 => nc_ fun c13 H => ?_
      have LMc13 := Aside0.mk c13
      clear c9 c10 c11 c13
      generalize e_ : (x8_2 ++ [t469] : List ByteArray) = y470 at H
      have Ny470 := Aside0.mk e_.symm
      clear e_
      have H' := Aside0.mk H
      clear H
      have p467 : 0 ≤ (x25_2 : Int) := ae_
      have q467 : x25_2 < (l1.length : Int) := ae_
      obtain ⟨ad467, e467, hx467_0⟩ := Kd.at_string HR1.out x25_2 p467 q467
      cases e467
      replace hx467_0 := (HB.out.cell (World.block_lt_of_cell? w _ hx467_0)).trans hx467_0
      replace p467 := eq_true p467
      replace q467 := eq_true q467
      obtain ⟨Ao14, co14, eo14⟩ := Kd.R_slice HO_6.out
      subst eo14
      have p468 : 0 ≤ (x25_2 : Int) := ae_
      have q468 : x25_2 < (t463.length : Int) := ae_
      obtain ⟨ad468, e468, hx468_0⟩ := Kd.at_int (Kd.R_reads' HO_6.out).2.2 x25_2 p468 q468
      cases e468
      replace p468 := eq_true p468
      replace q468 := eq_true q468
      go_wp2_with (first | ((with_reducible refine gate_callee (f := 83) rfl ?_); refine gL_ 38 Tryd.func83 #[.int .i64 x25_2, .string (rdOf ByteArray.empty l1 x25_2), .int .i64 (wrap64 (15 - (rd t463 x25_2)))] ?_; (with_reducible refine (wots_Chain.calls k2 x25_2 (rdOf ByteArray.empty l1 x25_2) (wrap64 (15 - (rd t463 x25_2))) t469 _ ?side1 A12.out).mono ?_); (case side1 => repeat (first | exact (Kd.C_below HRG.out HB.out) | (with_reducible refine Kd.C_alloc ?_ _) | (with_reducible refine Kd.C_drewN ?_ _) | (with_reducible refine Kd.C_drew ?_))); rintro e w15 ⟨rfl, hb⟩; refine ⟨_, rfl, ?_⟩; replace HB := Aside0.mk (below_step bl_ hb); replace HO_8 := Aside0.mk (Kd.R_below (mv_ HO_8.out) hb); replace HO_6 := Aside0.mk (Kd.R_below (mv_ HO_6.out) hb); clear hb) | ((with_reducible refine gate_builtin (b := .append) (xs := #[.tmp 30, .tmp 39]) rfl ?_); ((refine gate_guard (by rfl) ?_; dsimp only)); at_builtin; refine Kd.R_append Kd.string (w0 := w) w.heap.size rfl (.tmp 30) (.tmp 39) 22 9 (.string ⟨#[]⟩) 16 rfl Tryd.underlying22 info9 rfl (by decide) (by omega) u8 x8_2 t469 [.string t469] (fun _ => True) (fun _ => False) rfl rfl ?aP (fun _ hk => hk.elim) ?aF ?aO ?aB ?aS ?aL ?_; (case aP => exact rfl); (case aB => exact bl_); (case aF => exact (fun _ _ => trivial)); (case aO => exact (mv_ HO_8.out)); (case aS => exact (below_size bl_)); (case aL => have := LMc13.out; omega); intro v471 w16 ho hb hg hat; rw [← Ny470.out] at ho; have HO472 := Aside0.mk (ho); replace HB := Aside0.mk (hb); replace HO_6 := Aside0.mk (Kd.R_over' (mv_ HO_6.out) (Kd.R_typed (mv_ HO_8.out)) (by decide) hg); clear HO_8; clear ho hb hg hat))
      go_roundg k2
      case measure => have := HJ3.out; have := HK2.out; omega
      case rel => exact ⟨(y470), (wrap64 (x25_2 + 1)), vq_, H', ⟨by have := HJ3.out; have := HK2.out; omega⟩, ⟨mv_ HO_6.out⟩, ⟨mv_ HO472.out⟩, ⟨bl_⟩⟩
     rw [if_neg c8] at H
     have c8b0 : decide (x25_2 < (l1.length : Int)) = false := decide_eq_false c8
     clear c8
     revert H; refine oa_ fun t473 A17 H => ?_
     simp only [Option.some.injEq, Prod.mk.injEq] at H
     obtain ⟨rfl, rfl⟩ := H
     obtain ⟨Ao18, co18, eo18⟩ := Kd.R_slice HO_8.out
     subst eo18
     go_wp2_with (first | ((with_reducible refine gate_callee (f := 36) rfl ?_); refine gL_ 43 Tryd.func36 #[.int .i64 3, .slice Ao18 x8_2.length co18] ?_; (with_reducible refine (sha_Tag.calls k2 3 _ _ x8_2 t473 _ ?side1 ?side2 ?side3 A17.out).mono ?_); (case side1 => repeat (first | exact (Kd.R_reads' HO_8.out).2.2 | (with_reducible refine Kd.C_alloc ?_ _) | (with_reducible refine Kd.C_drewN ?_ _) | (with_reducible refine Kd.C_drew ?_))); (case side2 => exact (Kd.R_reads' HO_8.out).2.1); (case side3 => repeat (first | exact (Kd.C_below HRG.out HB.out) | (with_reducible refine Kd.C_alloc ?_ _) | (with_reducible refine Kd.C_drewN ?_ _) | (with_reducible refine Kd.C_drew ?_))); rintro e w19 ⟨rfl, hb⟩; refine ⟨_, rfl, ?_⟩; replace HB := Aside0.mk (below_step bl_ hb); replace HO_8 := Aside0.mk (Kd.R_below (mv_ HO_8.out) hb); replace HO_6 := Aside0.mk (Kd.R_below (mv_ HO_6.out) hb); clear hb))
     go_ret2
     exact ⟨er_, bl_⟩

/-! ### merkle_Fold: function 61 -/
mutual
def merkle_Fold.j0 : Nat → ByteArray → Int → List ByteArray → Bool → Option (ByteArray × Bool)
 | 0, _, _, _, _ => none
 | k + 1, x0, x1, x2, x24 => if x24 = true then (some ((⟨#[]⟩ : ByteArray), false)) else (merkle_Fold.l0 k x0 x1 x2 (x2.length : Int) 0)
def merkle_Fold.l0 : Nat → ByteArray → Int → List ByteArray → Int → Int → Option (ByteArray × Bool)
 | 0, _, _, _, _, _ => none
 | k + 1, x0, x1, x25, x26, x27 => if x27 < x26 then (if 0 ≤ x27 then (if x27 < (x25.length : Int) then ((some (List.replicate 2 (⟨#[]⟩ : ByteArray) : List ByteArray)).bind fun y475 => (if y475.length = 2 then (if 0 < (y475.length : Int) then (if (Go.bits .and .i64 x1 1) = 1 then ((sha_Tag.f k 4 ([rdOf ByteArray.empty x25 x27, x0])).bind fun t480 => (merkle_Fold.l0 k t480 (x1 / 2) x25 x26 (wrap64 (x27 + 1)))) else ((sha_Tag.f k 4 ([x0, rdOf ByteArray.empty x25 x27])).bind fun t481 => (merkle_Fold.l0 k t481 (x1 / 2) x25 x26 (wrap64 (x27 + 1))))) else (none)) else (none))) else (none)) else (none)) else (some (x0, true))
end
def merkle_Fold.f (k : Nat) (a0 : ByteArray) (a1 : Int) (l2 : List ByteArray) : Option (ByteArray × Bool) := if (l2.length : Int) > 4 then (merkle_Fold.j0 k a0 a1 l2 true) else (if a1 < 0 then (merkle_Fold.j0 k a0 a1 l2 true) else (merkle_Fold.j0 k a0 a1 l2 (decide (a1 ≥ (shl .i64 1 (l2.length : Int))))))
theorem merkle_Fold.mono_l : ∀ k, (∀ y0 y1 y2 y3, LeO (merkle_Fold.j0 k y0 y1 y2 y3) (merkle_Fold.j0 (k + 1) y0 y1 y2 y3)) ∧ (∀ y0 y1 y2 y3 y4, LeO (merkle_Fold.l0 k y0 y1 y2 y3 y4) (merkle_Fold.l0 (k + 1) y0 y1 y2 y3 y4))
 | 0 => ⟨fun _ _ _ _ r h => by simp [merkle_Fold.j0] at h, fun _ _ _ _ _ r h => by simp [merkle_Fold.l0] at h⟩
 | k + 1 => by
  obtain ⟨ih0, ih1⟩ := merkle_Fold.mono_l k
  refine ⟨?_, ?_⟩ <;> intros <;> (first | unfold merkle_Fold.j0 | unfold merkle_Fold.l0) <;> repeat' first
  | (with_reducible exact ih0 _ _ _ _)
  | (with_reducible exact ih1 _ _ _ _ _)
  | (with_reducible exact sha_Tag.mono _ _ _)
  | (with_reducible exact LeO.refl _)
  | (with_reducible exact LeO.none _)
  | (with_reducible refine LeO.ite ?_ ?_)
  | (with_reducible refine LeO.bind ?_ (fun _ => ?_))
  | exact ih0 _ _ _ _
  | exact ih1 _ _ _ _ _
  | exact sha_Tag.mono _ _ _
  | exact LeO.none _
  | refine LeO.ite ?_ ?_
  | refine LeO.bind ?_ (fun _ => ?_)
theorem merkle_Fold.mono : ∀ a0 a1 a2 k, LeO (merkle_Fold.f k a0 a1 a2) (merkle_Fold.f (k + 1) a0 a1 a2) := by
 intro a0 a1 a2 k
 obtain ⟨ih0, ih1⟩ := merkle_Fold.mono_l k
 unfold merkle_Fold.f
 repeat' first
  | (with_reducible exact ih0 _ _ _ _)
  | (with_reducible exact ih1 _ _ _ _ _)
  | (with_reducible exact sha_Tag.mono _ _ _)
  | (with_reducible exact LeO.refl _)
  | (with_reducible exact LeO.none _)
  | (with_reducible refine LeO.ite ?_ ?_)
  | (with_reducible refine LeO.bind ?_ (fun _ => ?_))
  | exact ih0 _ _ _ _
  | exact ih1 _ _ _ _ _
  | exact sha_Tag.mono _ _ _
  | exact LeO.none _
  | refine LeO.ite ?_ ?_
  | refine LeO.bind ?_ (fun _ => ?_)
set_option maxHeartbeats 64000000 in
set_option maxRecDepth 100000 in
theorem merkle_Fold.calls (k : Nat) (a0 : ByteArray) (a1 : Int) (A2 : Option Addr) (c2 : Nat) (l2 : List ByteArray) (r1 : ByteArray) (r2 : Bool) (w : World) (hr2 : Kd.C Kd.string w A2 l2.length l2) (hc2 : l2.length ≤ c2) (hrG : Kd.C (Kd.int .u32) w (some ⟨0, 0, none⟩) keysL.length keysL) (h : merkle_Fold.f k a0 a1 l2 = some (r1, r2)) :
 Calls Tryd.prog 61 #[.string a0, .int .i64 a1, .slice A2 l2.length c2] w fun e w' => e = .returned (.tuple #[.string r1, .bool r2]) ∧ Below w.heap.size w w' := by
 have hu121 := Tryd.underlying121
 have HR2 := Aside0.mk hr2
 have HC2 := Aside0.mk hc2
 clear hr2 hc2
 have HRG := Aside0.mk hrG
 clear hrG
 have HB := Aside0.mk (Below.refl w.heap.size w)
 have H : (if (l2.length : Int) > 4 then (merkle_Fold.j0 k a0 a1 l2 true) else (if a1 < 0 then (merkle_Fold.j0 k a0 a1 l2 true) else (merkle_Fold.j0 k a0 a1 l2 (decide (a1 ≥ (shl .i64 1 (l2.length : Int))))))) = some (r1, r2) := h
 clear h
 have HC4 := Aside0.mk H
 clear H
 go_enter Tryd.func61, Tryd.ntmps61
 go_upto_region 1 with (fail)
 go_cut [24] (fun v24 wc => ∃ (kq : Nat) (x24_3 : Bool), v24 = .bool x24_3 ∧ Aside0 (merkle_Fold.j0 kq a0 a1 l2 x24_3 = some (r1, r2)) ∧ Aside0 (kq ≤ k) ∧ Aside0 (Below w.heap.size w wc))
 case first =>
  have H := HC4.out
  clear HC4
  by_cases c5 : (l2.length : Int) > 4
  ·rw [if_pos c5] at H
   have c5b0 : decide (4 < (l2.length : Int)) = true := decide_eq_true c5
   have c5b1 : decide (4 < l2.length) = true := decide_eq_true (by omega)
   clear c5
   (first | rw [c5b0] | (simp only [i64_w, i32_w]; rw [c5b0]) | skip)
   have H' := Aside0.mk H
   clear H
   go_wp2
   go_meet
   case rel => exact ⟨_, (true), vq_, H', ⟨by first | omega | exact Nat.le_refl _⟩, ⟨bl_⟩⟩
  rw [if_neg c5] at H
  have c5b0 : decide (4 < (l2.length : Int)) = false := decide_eq_false c5
  have c5b1 : decide (4 < l2.length) = false := decide_eq_false (by omega)
  clear c5
  (first | rw [c5b0] | (simp only [i64_w, i32_w]; rw [c5b0]) | skip)
  by_cases c6 : a1 < 0
  ·rw [if_pos c6] at H
   have c6b0 : decide (a1 < 0) = true := decide_eq_true c6
   clear c6
   have H' := Aside0.mk H
   clear H
   go_wp2
   go_meet
   case rel => exact ⟨_, (true), vq_, H', ⟨by first | omega | exact Nat.le_refl _⟩, ⟨bl_⟩⟩
  rw [if_neg c6] at H
  have c6b0 : decide (a1 < 0) = false := decide_eq_false c6
  clear c6
  generalize hji7 : (shl .i64 1 (l2.length : Int)) = ji7 at H
  have hji7_ : (IntKind.i64.wrap (1 * 2 ^ min (l2.length : Int).toNat 64)) = ji7 := hji7
  have hji7z : (l2.length : Int) ≤ 64 → (IntKind.i64.wrap (1 * 2 ^ (l2.length : Int).toNat)) = ji7 := shl_small hji7
  (have hji7n : (0 ≤ (l2.length : Int)) = True := eq_true (by omega))
  have hji7p : (IntKind.i64.wrap (1 * 2 ^ min l2.length 64)) = ji7 := hji7_
  have hji7q : (l2.length : Int) ≤ 64 → (IntKind.i64.wrap (1 * 2 ^ l2.length)) = ji7 := hji7z
  have hji7r : (IntKind.i64.wrap (2 ^ min l2.length 64)) = ji7 := by have h_ := hji7p; rw [Int.one_mul] at h_; exact h_
  have hji7s : (l2.length : Int) ≤ 64 → (IntKind.i64.wrap (2 ^ l2.length)) = ji7 := fun hle_ => by have h_ := hji7q hle_; rw [Int.one_mul] at h_; exact h_
  have hji7u : (IntKind.i64.wrap (2 ^ min (l2.length : Int).toNat 64)) = ji7 := by have h_ := hji7_; rw [Int.one_mul] at h_; exact h_
  have hji7v : (l2.length : Int) ≤ 64 → (IntKind.i64.wrap (2 ^ (l2.length : Int).toNat)) = ji7 := fun hle_ => by have h_ := hji7z hle_; rw [Int.one_mul] at h_; exact h_
  have hji7y : (wrap64 (1 * 2 ^ min (l2.length : Int).toNat 64)) = ji7 := (i64_w _).symm.trans hji7_
  have hji7x : (l2.length : Int) ≤ 64 → (wrap64 (1 * 2 ^ (l2.length : Int).toNat)) = ji7 := fun h_ => (i64_w _).symm.trans (hji7z h_)
  have H' := Aside0.mk H
  clear H
  go_wp2
  go_meet
  case rel => exact ⟨_, (decide (a1 ≥ (ji7))), (by first | rfl | (simp; done) | (simp only [← hji7] <;> (first | rfl | simp)) | (simp [*]; done) | exact congrArg Value.bool (nonempty_l _) | (refine congrArg (Value.int _) ?_; first | omega | (unfold wrap64; omega))), H', ⟨by first | omega | exact Nat.le_refl _⟩, ⟨bl_⟩⟩
 case rest =>
  clear HC4
  obtain ⟨kq, x24_3, rfl, HA, HJ3, HB⟩ := hcut
  cases kq with
  | zero => exact absurd HA.out (by simp [merkle_Fold.j0])
  | succ kj3 =>
   have H := HA.out
   clear HA
   simp only [merkle_Fold.j0] at H
   by_cases c8 : x24_3 = true
   ·subst c8
    have H1 : (some ((⟨#[]⟩ : ByteArray), false)) = some (r1, r2) := by rw [if_pos rfl] at H; exact H
    clear H
    have H := H1
    clear H1
    simp only [Option.some.injEq, Prod.mk.injEq] at H
    obtain ⟨rfl, rfl⟩ := H
    go_wp2
    go_ret2
    exact ⟨er_, bl_⟩
   replace c8 := Bool.eq_false_iff.mpr c8
   subst c8
   have H1 : (merkle_Fold.l0 kj3 a0 a1 l2 (l2.length : Int) 0) = some (r1, r2) := by rw [if_neg (show ¬ (false = true) by decide)] at H; exact H
   clear H
   have H := H1
   clear H1
   have H' := Aside0.mk H
   clear H
   go_wp2
   go_loopg [0, 1, 27] kj3 (fun kq v0 v1 v27 w' => ∃ (x0_2 : ByteArray) (x1_2 : Int) (x27_2 : Int), v0 = .string x0_2 ∧ v1 = .int .i64 x1_2 ∧ v27 = .int .i64 x27_2 ∧ Aside0 (merkle_Fold.l0 kq x0_2 x1_2 l2 (l2.length : Int) x27_2 = some (r1, r2)) ∧ Aside0 (kq ≤ kj3) ∧ Aside0 (Below w.heap.size w w'))
   case atStart => exact ⟨(a0), (a1), (0), vq_, vq_, vq_, H', ⟨Nat.le_refl _⟩, ⟨bl_⟩⟩
   case round =>
    clear H'
    obtain ⟨x0_2, x1_2, x27_2, rfl, rfl, rfl, HA, HK2, HB⟩ := hrel
    cases gk with
    | zero => exact absurd HA.out (by simp [merkle_Fold.l0])
    | succ k2 =>
     have H := HA.out
     clear HA
     simp only [merkle_Fold.l0] at H
     by_cases c9 : x27_2 < (l2.length : Int)
     ·rw [if_pos c9] at H
      have c9b0 : decide (x27_2 < (l2.length : Int)) = true := decide_eq_true c9
      clear c9
      revert H; refine nd_ fun c10 c10b0 => nd_ fun c11 c11b0 => oy_ fun y475 Ny475 => ne_ fun c12 c12b0 c12b1 => nd_ fun c13 c13b0 H => ?_
      have c13b1 : decide (0 < y475.length) = true := decide_eq_true (by omega)
      clear c10 c11 c12 c13
      generalize e_ : ([x0_2, rdOf ByteArray.empty l2 x27_2] : List ByteArray) = y478 at H
      have Ny478 := Aside0.mk e_.symm
      clear e_
      by_cases c15 : (Go.bits .and .i64 x1_2 1) = 1
      ·rw [if_pos c15] at H
       have c15b0 : ((Go.bits .and .i64 x1_2 1) == 1) = true := beq_iff_eq.mpr c15
       have c15b1 : ((Go.bits .and .i64 x1_2 1) != 1) = false := bne_eq_false_iff_eq.mpr c15
       clear c15
       generalize e_ : ([rdOf ByteArray.empty l2 x27_2, x0_2] : List ByteArray) = y479 at H
       have Ny479 := Aside0.mk e_.symm
       clear e_
       revert H; refine oa_ fun t480 A18 H => ?_
       have H' := Aside0.mk H
       clear H
       have p474 : 0 ≤ (x27_2 : Int) := ae_
       have q474 : x27_2 < (l2.length : Int) := ae_
       obtain ⟨ad474, e474, hx474_0⟩ := Kd.at_string HR2.out x27_2 p474 q474
       cases e474
       replace hx474_0 := (HB.out.cell (World.block_lt_of_cell? w _ hx474_0)).trans hx474_0
       replace p474 := eq_true p474
       replace q474 := eq_true q474
       go_wp2_with (first | ((with_reducible refine gate_dst (N := 10) rfl ?_); ((refine gate_guard (by rfl) ?_; dsimp only)); refine R_arr Value.string (fun _ => rfl) _ 121 ?hg (N := 10) ?hd (List.replicate 2 (⟨#[]⟩ : ByteArray)) ?hr (Below.refl _ _) (Nat.le_refl _) (by decide) ?_; (case hd => rfl); (case hg => rfl); (case hr => exact gr_); intro v476 w19 ho20 hb hg_ hnew_; clear hg_ hnew_; (first | rw [← Ny475.out] at ho20 | (simp only [Int.reduceToNat] at ho20; rw [← Ny475.out] at ho20)); have HO477 := Aside0.mk (Kd.R_lower ho20 (below_size bl_)); replace HB := Aside0.mk (below_step bl_ hb); clear hb ho20; have qa14 : ((0 : Int) < (2 : Int)) = True := eq_true (by have e_ : y475.length = 2 := ae_; have h_ : (0 : Int) < ((y475.length : Int) : Int) := ae_; omega); have p14 : 0 ≤ (0 : Int) := (by omega); have q14 : (0 : Int) < ((y475.length : Int) : Int) := ae_; have qi14 : (0 < y475.length) = True := eq_true (by omega); obtain ⟨go14, co14, eo14, gb14, gl14, cl14, HG14⟩ := Kd.R_form HO477.out (by omega); (first | cases eo14 | (injection eo14 with ea_ en_ ec_; (first | subst ea_ | (injection ea_ with ea_; subst ea_)); subst ec_; clear en_)); have GB14 := Aside0.mk gb14; have GG14 := Aside0.mk HG14; clear gb14 gl14 HG14; obtain ⟨hx14_0, hf14_0⟩ := Kd.R_celln (⟨#[]⟩ : ByteArray) HO477.out (0 : Int) p14 q14; (rw [show ((0 : Int)).toNat = 0 from rfl] at hx14_0); (rw [show ((0 : Int)).toNat = 0 from rfl] at hf14_0); replace p14 := eq_true p14; replace q14 := eq_true q14; have HP21 := R_whole (ys := [x0_2, rdOf ByteArray.empty l2 x27_2]) HO477.out (by have e_ : y475.length = 2 := ae_; have e2_ := (Kd.R_reads' HO477.out).1; first | (rw [e_]; rfl) | (simp only [List.length_cons, List.length_nil]; omega))) | ((with_reducible refine gate_store (t := 121) (p := 10) rfl ?_); refine store_event (t := 121) (p := 10) (v := ?vo_w22) (w1 := (w19.setCells go14 0 (encs Value.string [x0_2, rdOf ByteArray.empty l2 x27_2]))) ?hg ?ho ?hn ?hr ?_; (case ho => rfl); (case hg => rfl); (case hn => rfl); (case hr => exact whole_run (ys := [x0_2, rdOf ByteArray.empty l2 x27_2]) rfl rfl rfl (by kernel_rfl) HO477.out (by have e_ : y475.length = 2 := ae_; have e2_ := (Kd.R_reads' HO477.out).1; first | (rw [e_]; rfl) | (simp only [List.length_cons, List.length_nil]; omega))); intro w22 hw; have hg : w19.grownBy w22 (some go14) := (by rw [hw]; exact HP21.2); have hp_ : Kd.R Kd.string 121 w22 w.heap.size (fun _ => True) (.slice (some ⟨go14, 0, none⟩) y475.length co14) y478 := (by rw [hw, Ny478.out]; exact HP21.1); clear HP21; replace HB := Aside0.mk ((Below.grown HB.out hg (below_size HB.out) (fun k_ e_ => (Option.some.inj e_) ▸ GB14.out) : Below w.heap.size w w22)); replace HO477 := Aside0.mk (hp_); clear hg hw hp_; have qa16 : ((0 : Int) < (2 : Int)) = True := eq_true (by have e_ : y475.length = 2 := ae_; have h_ : (0 : Int) < ((y475.length : Int) : Int) := ae_; omega); have p16 : 0 ≤ (0 : Int) := (by omega); have q16 : (0 : Int) < ((y475.length : Int) : Int) := ae_; have qi16 : (0 < y475.length) = True := eq_true (by omega); obtain ⟨hx16_0, hf16_0⟩ := Kd.R_celln (⟨#[]⟩ : ByteArray) HO477.out (0 : Int) p16 q16; (rw [show ((0 : Int)).toNat = 0 from rfl] at hx16_0); (rw [show ((0 : Int)).toNat = 0 from rfl] at hf16_0); replace p16 := eq_true p16; replace q16 := eq_true q16; have HP23 := R_whole (ys := [rdOf ByteArray.empty l2 x27_2, x0_2]) HO477.out (by have e_ : y475.length = 2 := ae_; have e2_ := (Kd.R_reads' HO477.out).1; first | (rw [e_]; rfl) | (simp only [List.length_cons, List.length_nil]; omega))) | ((with_reducible refine gate_store (t := 121) (p := 10) rfl ?_); refine store_event (t := 121) (p := 10) (v := ?vo_w24) (w1 := (w22.setCells go14 0 (encs Value.string [rdOf ByteArray.empty l2 x27_2, x0_2]))) ?hg ?ho ?hn ?hr ?_; (case ho => rfl); (case hg => rfl); (case hn => rfl); (case hr => exact whole_run (ys := [rdOf ByteArray.empty l2 x27_2, x0_2]) rfl rfl rfl (by kernel_rfl) HO477.out (by have e_ : y475.length = 2 := ae_; have e2_ := (Kd.R_reads' HO477.out).1; first | (rw [e_]; rfl) | (simp only [List.length_cons, List.length_nil]; omega))); intro w24 hw; have hg : w22.grownBy w24 (some go14) := (by rw [hw]; exact HP23.2); have hp_ : Kd.R Kd.string 121 w24 w.heap.size (fun _ => True) (.slice (some ⟨go14, 0, none⟩) y475.length co14) y479 := (by rw [hw, Ny479.out]; exact HP23.1); clear HP23; replace HB := Aside0.mk ((Below.grown HB.out hg (below_size HB.out) (fun k_ e_ => (Option.some.inj e_) ▸ GB14.out) : Below w.heap.size w w24)); replace HO477 := Aside0.mk (hp_); clear hg hw hp_; have qa17 : ((0 : Int) < (2 : Int)) = True := eq_true (by have e_ : y475.length = 2 := ae_; have h_ : (0 : Int) < ((y475.length : Int) : Int) := ae_; omega); have p17 : 0 ≤ (0 : Int) := (by omega); have q17 : (0 : Int) < ((y475.length : Int) : Int) := ae_; have qi17 : (0 < y475.length) = True := eq_true (by omega); obtain ⟨hx17_0, hf17_0⟩ := Kd.R_celln (⟨#[]⟩ : ByteArray) HO477.out (0 : Int) p17 q17; (rw [show ((0 : Int)).toNat = 0 from rfl] at hx17_0); (rw [show ((0 : Int)).toNat = 0 from rfl] at hf17_0); replace p17 := eq_true p17; replace q17 := eq_true q17) | ((with_reducible refine gate_dst (N := 40) rfl ?_); ((refine gate_guard (by rfl) ?_; dsimp only)); refine aslice_event (P := Tryd.prog) rfl (N := 40) rfl 121 9 2 _ _ rfl rfl Tryd.underlying121 (by go_simp) ?_) | ((with_reducible refine gate_callee (f := 36) rfl ?_); refine goesL_ (some 41) rfl rfl Tryd.func36 (by kernel_rfl) rfl #[.int .i64 4, .slice (some ⟨go14, 0, none⟩) y479.length 2] rfl (by (simp only [List.map_toArray, List.map_cons, List.map_nil]); first | done | (rw [show y479.length = 2 from (by have e_ : y475.length = 2 := (by first | rfl | exact ae_); have e2_ := (Kd.R_reads' HO477.out).1; omega)] <;> rfl) | rfl | (simp only [List.length_drop, List.length_take]; rfl)) ?_; (with_reducible refine (sha_Tag.calls k2 4 _ _ y479 t480 _ ?side1 ?side2 ?side3 A18.out).mono ?_); (case side1 => repeat (first | exact (Kd.R_reads' HO477.out).2.2 | (with_reducible refine Kd.C_alloc ?_ _) | (with_reducible refine Kd.C_drewN ?_ _) | (with_reducible refine Kd.C_drew ?_))); (case side2 => rw [show y479.length = 2 from (by have e_ : y475.length = 2 := (by first | rfl | exact ae_); have e2_ := (Kd.R_reads' HO477.out).1; omega)]; first | done | exact Nat.le_refl _ | exact Nat.le_of_eq (by have e_ : y475.length = 2 := (by first | rfl | exact ae_); have e2_ := (Kd.R_reads' HO477.out).1; omega)); (case side3 => repeat (first | exact (Kd.C_below HRG.out HB.out) | (with_reducible refine Kd.C_alloc ?_ _) | (with_reducible refine Kd.C_drewN ?_ _) | (with_reducible refine Kd.C_drew ?_))); rintro e w26 ⟨rfl, hb⟩; refine ⟨_, rfl, ?_⟩; replace HB := Aside0.mk (below_step bl_ hb); replace HO477 := Aside0.mk (Kd.R_below (mv_ HO477.out) hb); clear hb))
       go_roundg k2
       case measure => have := HJ3.out; have := HK2.out; omega
       case rel => exact ⟨(t480), (x1_2 / 2), (wrap64 (x27_2 + 1)), vq_, vq_, vq_, H', ⟨by have := HJ3.out; have := HK2.out; omega⟩, ⟨bl_⟩⟩
      rw [if_neg c15] at H
      have c15b0 : ((Go.bits .and .i64 x1_2 1) == 1) = false := beq_eq_false_iff_ne.mpr c15
      have c15b1 : ((Go.bits .and .i64 x1_2 1) != 1) = true := bne_iff_ne.mpr c15
      revert H; refine oa_ fun t481 A28 H => ?_
      have H' := Aside0.mk H
      clear H
      have p474 : 0 ≤ (x27_2 : Int) := ae_
      have q474 : x27_2 < (l2.length : Int) := ae_
      obtain ⟨ad474, e474, hx474_0⟩ := Kd.at_string HR2.out x27_2 p474 q474
      cases e474
      replace hx474_0 := (HB.out.cell (World.block_lt_of_cell? w _ hx474_0)).trans hx474_0
      replace p474 := eq_true p474
      replace q474 := eq_true q474
      go_wp2_with (first | ((with_reducible refine gate_dst (N := 10) rfl ?_); ((refine gate_guard (by rfl) ?_; dsimp only)); refine R_arr Value.string (fun _ => rfl) _ 121 ?hg (N := 10) ?hd (List.replicate 2 (⟨#[]⟩ : ByteArray)) ?hr (Below.refl _ _) (Nat.le_refl _) (by decide) ?_; (case hd => rfl); (case hg => rfl); (case hr => exact gr_); intro v476 w29 ho30 hb hg_ hnew_; clear hg_ hnew_; (first | rw [← Ny475.out] at ho30 | (simp only [Int.reduceToNat] at ho30; rw [← Ny475.out] at ho30)); have HO477 := Aside0.mk (Kd.R_lower ho30 (below_size bl_)); replace HB := Aside0.mk (below_step bl_ hb); clear hb ho30; have qa14 : ((0 : Int) < (2 : Int)) = True := eq_true (by have e_ : y475.length = 2 := ae_; have h_ : (0 : Int) < ((y475.length : Int) : Int) := ae_; omega); have p14 : 0 ≤ (0 : Int) := (by omega); have q14 : (0 : Int) < ((y475.length : Int) : Int) := ae_; have qi14 : (0 < y475.length) = True := eq_true (by omega); obtain ⟨go14, co14, eo14, gb14, gl14, cl14, HG14⟩ := Kd.R_form HO477.out (by omega); (first | cases eo14 | (injection eo14 with ea_ en_ ec_; (first | subst ea_ | (injection ea_ with ea_; subst ea_)); subst ec_; clear en_)); have GB14 := Aside0.mk gb14; have GG14 := Aside0.mk HG14; clear gb14 gl14 HG14; obtain ⟨hx14_0, hf14_0⟩ := Kd.R_celln (⟨#[]⟩ : ByteArray) HO477.out (0 : Int) p14 q14; (rw [show ((0 : Int)).toNat = 0 from rfl] at hx14_0); (rw [show ((0 : Int)).toNat = 0 from rfl] at hf14_0); replace p14 := eq_true p14; replace q14 := eq_true q14; have HP31 := R_whole (ys := [x0_2, rdOf ByteArray.empty l2 x27_2]) HO477.out (by have e_ : y475.length = 2 := ae_; have e2_ := (Kd.R_reads' HO477.out).1; first | (rw [e_]; rfl) | (simp only [List.length_cons, List.length_nil]; omega))) | ((with_reducible refine gate_store (t := 121) (p := 10) rfl ?_); refine store_event (t := 121) (p := 10) (v := ?vo_w32) (w1 := (w29.setCells go14 0 (encs Value.string [x0_2, rdOf ByteArray.empty l2 x27_2]))) ?hg ?ho ?hn ?hr ?_; (case ho => rfl); (case hg => rfl); (case hn => rfl); (case hr => exact whole_run (ys := [x0_2, rdOf ByteArray.empty l2 x27_2]) rfl rfl rfl (by kernel_rfl) HO477.out (by have e_ : y475.length = 2 := ae_; have e2_ := (Kd.R_reads' HO477.out).1; first | (rw [e_]; rfl) | (simp only [List.length_cons, List.length_nil]; omega))); intro w32 hw; have hg : w29.grownBy w32 (some go14) := (by rw [hw]; exact HP31.2); have hp_ : Kd.R Kd.string 121 w32 w.heap.size (fun _ => True) (.slice (some ⟨go14, 0, none⟩) y475.length co14) y478 := (by rw [hw, Ny478.out]; exact HP31.1); clear HP31; replace HB := Aside0.mk ((Below.grown HB.out hg (below_size HB.out) (fun k_ e_ => (Option.some.inj e_) ▸ GB14.out) : Below w.heap.size w w32)); replace HO477 := Aside0.mk (hp_); clear hg hw hp_; have qa27 : ((0 : Int) < (2 : Int)) = True := eq_true (by have e_ : y475.length = 2 := ae_; have h_ : (0 : Int) < ((y475.length : Int) : Int) := ae_; omega); have p27 : 0 ≤ (0 : Int) := (by omega); have q27 : (0 : Int) < ((y475.length : Int) : Int) := ae_; have qi27 : (0 < y475.length) = True := eq_true (by omega); obtain ⟨hx27_0, hf27_0⟩ := Kd.R_celln (⟨#[]⟩ : ByteArray) HO477.out (0 : Int) p27 q27; (rw [show ((0 : Int)).toNat = 0 from rfl] at hx27_0); (rw [show ((0 : Int)).toNat = 0 from rfl] at hf27_0); replace p27 := eq_true p27; replace q27 := eq_true q27) | ((with_reducible refine gate_dst (N := 40) rfl ?_); ((refine gate_guard (by rfl) ?_; dsimp only)); refine aslice_event (P := Tryd.prog) rfl (N := 40) rfl 121 9 2 _ _ rfl rfl Tryd.underlying121 (by go_simp) ?_) | ((with_reducible refine gate_callee (f := 36) rfl ?_); refine goesL_ (some 41) rfl rfl Tryd.func36 (by kernel_rfl) rfl #[.int .i64 4, .slice (some ⟨go14, 0, none⟩) y478.length 2] rfl (by (simp only [List.map_toArray, List.map_cons, List.map_nil]); first | done | (rw [show y478.length = 2 from (by have e_ : y475.length = 2 := (by first | rfl | exact ae_); have e2_ := (Kd.R_reads' HO477.out).1; omega)] <;> rfl) | rfl | (simp only [List.length_drop, List.length_take]; rfl)) ?_; (with_reducible refine (sha_Tag.calls k2 4 _ _ y478 t481 _ ?side1 ?side2 ?side3 A28.out).mono ?_); (case side1 => repeat (first | exact (Kd.R_reads' HO477.out).2.2 | (with_reducible refine Kd.C_alloc ?_ _) | (with_reducible refine Kd.C_drewN ?_ _) | (with_reducible refine Kd.C_drew ?_))); (case side2 => rw [show y478.length = 2 from (by have e_ : y475.length = 2 := (by first | rfl | exact ae_); have e2_ := (Kd.R_reads' HO477.out).1; omega)]; first | done | exact Nat.le_refl _ | exact Nat.le_of_eq (by have e_ : y475.length = 2 := (by first | rfl | exact ae_); have e2_ := (Kd.R_reads' HO477.out).1; omega)); (case side3 => repeat (first | exact (Kd.C_below HRG.out HB.out) | (with_reducible refine Kd.C_alloc ?_ _) | (with_reducible refine Kd.C_drewN ?_ _) | (with_reducible refine Kd.C_drew ?_))); rintro e w34 ⟨rfl, hb⟩; refine ⟨_, rfl, ?_⟩; replace HB := Aside0.mk (below_step bl_ hb); replace HO477 := Aside0.mk (Kd.R_below (mv_ HO477.out) hb); clear hb))
      go_roundg k2
      case measure => have := HJ3.out; have := HK2.out; omega
      case rel => exact ⟨(t481), (x1_2 / 2), (wrap64 (x27_2 + 1)), vq_, vq_, vq_, H', ⟨by have := HJ3.out; have := HK2.out; omega⟩, ⟨bl_⟩⟩
     rw [if_neg c9] at H
     have c9b0 : decide (x27_2 < (l2.length : Int)) = false := decide_eq_false c9
     clear c9
     simp only [Option.some.injEq, Prod.mk.injEq] at H
     obtain ⟨rfl, rfl⟩ := H
     go_wp2
     go_ret2
     exact ⟨er_, bl_⟩

/-! ### key_named: function 62 -/
def key_named.f (k : Nat) (a0 : Int) (a1 : ByteArray) : Option (ByteArray) := (octets_Byte.f k a0).bind fun bt482 => ((sha_Tag.f k 5 (([bt482.1, a1] : List ByteArray))).bind fun t487 => (some t487))
theorem key_named.mono : ∀ a0 a1 k, LeO (key_named.f k a0 a1) (key_named.f (k + 1) a0 a1) := by
 intro a0 a1 k
 unfold key_named.f
 repeat' first
  | (with_reducible exact octets_Byte.mono _ _)
  | (with_reducible exact sha_Tag.mono _ _ _)
  | (with_reducible exact LeO.refl _)
  | (with_reducible exact LeO.none _)
  | (with_reducible refine LeO.ite ?_ ?_)
  | (with_reducible refine LeO.bind ?_ (fun _ => ?_))
  | exact octets_Byte.mono _ _
  | exact sha_Tag.mono _ _ _
  | exact LeO.none _
  | refine LeO.ite ?_ ?_
  | refine LeO.bind ?_ (fun _ => ?_)
set_option maxHeartbeats 64000000 in
set_option maxRecDepth 100000 in
theorem key_named.calls (k : Nat) (a0 : Int) (a1 : ByteArray) (r : ByteArray) (w : World) (hrG : Kd.C (Kd.int .u32) w (some ⟨0, 0, none⟩) keysL.length keysL) (h : key_named.f k a0 a1 = some r) :
 Calls Tryd.prog 62 #[.int .i64 a0, .string a1] w fun e w' => e = .returned (.string r) ∧ Below w.heap.size w w' := by
 have HRG := Aside0.mk hrG
 clear hrG
 have HB := Aside0.mk (Below.refl w.heap.size w)
 have H : ((octets_Byte.f k a0).bind fun bt482 => ((sha_Tag.f k 5 (([bt482.1, a1] : List ByteArray))).bind fun t487 => (some t487))) = some r := h
 clear h
 replace H := ob_ H
 obtain ⟨⟨t482, t483⟩, A30, H⟩ := H
 replace H : ((sha_Tag.f k 5 (([t482, a1] : List ByteArray))).bind fun t487 => (some t487)) = some r := H
 have A3 := Aside0.mk A30
 clear A30
 generalize e_ : (([t482, a1] : List ByteArray) : List ByteArray) = y484 at H
 have Ny484 := Aside0.mk e_.symm
 clear e_
 revert H; refine oa_ fun t487 A4 H => ?_
 obtain rfl := Option.some.inj H
 go_enter Tryd.func62, Tryd.ntmps62
 go_wp2_with (first | ((with_reducible refine gate_callee (f := 84) rfl ?_); refine gL_ 9 Tryd.func84 #[.int .i64 a0] ?_; (with_reducible refine (octets_Byte.calls k a0 t482 t483 _ A3.out).mono ?_); rintro e w5 ⟨rfl, hb⟩; refine ⟨_, rfl, ?_⟩; replace HB := Aside0.mk (below_step bl_ hb); clear hb) | ((with_reducible refine gate_dst (N := 14) rfl ?_); refine Kd.R_lit Kd.string _ 9 ?hg (N := 14) ?hd (xs := ([t482, a1] : List ByteArray)) (inner := [.string t482, .string a1]) (ok := fun _ => True) (okp := fun _ => True) ?hr ?hp (fun _ hk => hk) trivial (Below.refl _ _) (Nat.le_refl _) (by simp) ?_; (case hd => rfl); (case hg => rfl); (case hr => exact gr_); (case hp => exact (Reps.one (show Kd.M Kd.string _ _ _ t482 [.string t482] from rfl) (Reps.one (show Kd.M Kd.string _ _ _ a1 [.string a1] from rfl) (Reps.none _ _)))); intro v485 w6 ho7 hb hg_ hnew_; clear hg_ hnew_; (first | rw [← Ny484.out] at ho7 | (simp only [Int.reduceToNat] at ho7; rw [← Ny484.out] at ho7)); have HO486 := Aside0.mk (Kd.R_lower ho7 (below_size bl_)); replace HB := Aside0.mk (below_step bl_ hb); clear hb ho7; obtain ⟨Ao8, co8, eo8⟩ := Kd.R_slice HO486.out; subst eo8) | ((with_reducible refine gate_callee (f := 36) rfl ?_); refine gL_ 15 Tryd.func36 #[.int .i64 5, .slice Ao8 y484.length co8] ?_; (with_reducible refine (sha_Tag.calls k 5 _ _ y484 t487 _ ?side1 ?side2 ?side3 A4.out).mono ?_); (case side1 => repeat (first | exact (Kd.R_reads' HO486.out).2.2 | (with_reducible refine Kd.C_alloc ?_ _) | (with_reducible refine Kd.C_drewN ?_ _) | (with_reducible refine Kd.C_drew ?_))); (case side2 => exact (Kd.R_reads' HO486.out).2.1); (case side3 => repeat (first | exact (Kd.C_below HRG.out HB.out) | (with_reducible refine Kd.C_alloc ?_ _) | (with_reducible refine Kd.C_drewN ?_ _) | (with_reducible refine Kd.C_drew ?_))); rintro e w9 ⟨rfl, hb⟩; refine ⟨_, rfl, ?_⟩; replace HB := Aside0.mk (below_step bl_ hb); replace HO486 := Aside0.mk (Kd.R_below (mv_ HO486.out) hb); clear hb))
 go_ret
 exact ⟨er_, bl_⟩

/-! ### key_Verify: function 39 (walked by hand) -/
def key_Verify.f (k : Nat) (a0 a1 a2 : ByteArray) : Option Bool :=
  (key_parts.f k a2).bind fun t => if t.2.2.2 = true then ((sha_Tag.f k 6 [a1]).bind fun d => (wots_Recover.f k d t.2.1).bind fun p => (merkle_Fold.f k p.1 t.1 t.2.2.1).bind fun q => (key_named.f k (t.2.2.1.length : Int) q.1).bind fun x => some (x.toList == a0.toList)) else some false
theorem key_Verify.mono : ∀ a0 a1 a2 k, LeO (key_Verify.f k a0 a1 a2) (key_Verify.f (k + 1) a0 a1 a2) := by
  intro a0 a1 a2 k
  unfold key_Verify.f
  exact LeO.bind (key_parts.mono _ _) fun _ => LeO.ite (LeO.bind (sha_Tag.mono _ _ _) fun _ => LeO.bind (wots_Recover.mono _ _ _) fun _ => LeO.bind (merkle_Fold.mono _ _ _ _) fun _ => LeO.bind (key_named.mono _ _ _) fun _ => LeO.refl _) (LeO.refl _)
set_option maxHeartbeats 8000000 in
set_option maxRecDepth 100000 in
theorem key_Verify.calls (k : Nat) (a0 a1 a2 : ByteArray) (r : Bool) (w : World) (hrG : Kd.C (Kd.int .u32) w (some ⟨0, 0, none⟩) keysL.length keysL) (h : key_Verify.f k a0 a1 a2 = some r) :
    Calls Tryd.prog 39 #[.string a0, .string a1, .string a2] w fun e w' => e = .returned (.bool r) ∧ Below w.heap.size w w' := by
  have HRG := Aside0.mk hrG
  have HB := Aside0.mk (Below.refl w.heap.size w)
  clear hrG
  unfold key_Verify.f at h
  replace h := Option.bind_eq_some_iff.mp h
  obtain ⟨⟨leaf, vs, ps, ok⟩, hP, h⟩ := h
  have A1 := Aside0.mk hP
  clear hP
  cases ok with
  | false =>
    obtain rfl := Option.some.inj (show some false = some r from h)
    clear h
    go_enter Tryd.func39, Tryd.ntmps39
    go_wp2_with (first | (go_at_call 59; (with_reducible refine (key_parts.calls k a2 leaf vs ps false _ A1.out).mono ?_); rintro e w1 ⟨P1, P2, q1, q2, rfl, hc1, hq1, hc2, hq2, hb⟩; have C1 := Aside0.mk hc1; have Q1 := Aside0.mk hq1; have C2 := Aside0.mk hc2; have Q2 := Aside0.mk hq2; have n0_ := Aside0.mk (below_step (by repeat (first | (with_reducible first | exact HB.out | apply lA_ | apply lN_ | apply lD_) | exact HB.out)) hb); clear HB; have HB := n0_; clear n0_; clear hb hc1 hq1 hc2 hq2))
    go_ret
    exact ⟨rfl, HB.out⟩
  | true =>
    replace h := Option.bind_eq_some_iff.mp (show (sha_Tag.f k 6 [a1]).bind (fun d => (wots_Recover.f k d vs).bind fun p => (merkle_Fold.f k p.1 leaf ps).bind fun q => (key_named.f k (ps.length : Int) q.1).bind fun x => some (x.toList == a0.toList)) = some r from h)
    obtain ⟨d, hD, h⟩ := h
    replace h := Option.bind_eq_some_iff.mp h
    obtain ⟨⟨p, po⟩, hR, h⟩ := h
    replace h := Option.bind_eq_some_iff.mp h
    obtain ⟨⟨q, qo⟩, hF, h⟩ := h
    replace h := Option.bind_eq_some_iff.mp h
    obtain ⟨x, hN, h⟩ := h
    obtain rfl := Option.some.inj h
    obtain ⟨ym, hym⟩ : ∃ y_ : List ByteArray, y_ = [a1] := ⟨_, rfl⟩
    rw [← hym] at hD
    have Nym := Aside0.mk hym
    have A2 := Aside0.mk hD
    have A3 := Aside0.mk hR
    have A4 := Aside0.mk hF
    have A5 := Aside0.mk hN
    clear h hD hR hF hN hym
    go_enter Tryd.func39, Tryd.ntmps39
    go_wp2_with (first | (go_at_call 59; (with_reducible refine (key_parts.calls k a2 leaf vs ps true _ A1.out).mono ?_); rintro e w1 ⟨P1, P2, q1, q2, rfl, hc1, hq1, hc2, hq2, hb⟩; have C1 := Aside0.mk hc1; have Q1 := Aside0.mk hq1; have C2 := Aside0.mk hc2; have Q2 := Aside0.mk hq2; have n0_ := Aside0.mk (below_step (by repeat (first | (with_reducible first | exact HB.out | apply lA_ | apply lN_ | apply lD_) | exact HB.out)) hb); clear HB; have HB := n0_; clear n0_; clear hb hc1 hq1 hc2 hq2) | ((with_reducible refine gate_dst (N := 26) rfl ?_); refine Kd.R_lit Kd.string _ 9 ?hg (N := 26) ?hd (xs := ([a1] : List ByteArray)) (inner := [.string a1]) (ok := fun _ => True) (okp := fun _ => True) ?hr ?hp (fun _ hk => hk) trivial (Below.refl _ _) (Nat.le_refl _) (by simp) ?_; (case hd => rfl); (case hg => rfl); (case hr => first | (go_simp; done) | (go_simp; rfl)); (case hp => exact (Reps.one (show Kd.M Kd.string _ _ _ a1 [.string a1] from rfl) (Reps.none _ _))); intro v2 w2 ho hb hg_ hnew_; clear hg_ hnew_; (first | rw [← Nym.out] at ho | (simp only [Int.reduceToNat] at ho; rw [← Nym.out] at ho)); have m_ := Aside0.mk (Kd.C_below (by repeat (first | exact C1.out | (with_reducible refine Kd.C_alloc ?_ _) | (with_reducible refine Kd.C_drewN ?_ _) | (with_reducible refine Kd.C_drew ?_))) hb); clear C1; have C1 := m_; clear m_; have m_ := Aside0.mk (Kd.C_below (by repeat (first | exact C2.out | (with_reducible refine Kd.C_alloc ?_ _) | (with_reducible refine Kd.C_drewN ?_ _) | (with_reducible refine Kd.C_drew ?_))) hb); clear C2; have C2 := m_; clear m_; have HO := Aside0.mk ho; have n0_ := Aside0.mk (below_step (by repeat (first | (with_reducible first | exact HB.out | apply lA_ | apply lN_ | apply lD_) | exact HB.out)) hb); clear HB; have HB := n0_; clear n0_; clear hb ho; obtain ⟨Ao, co, eo⟩ := Kd.R_slice HO.out; subst eo) | (go_at_call 36; (with_reducible refine (sha_Tag.calls k 6 _ _ ym d _ ?side1 ?side2 ?side3 A2.out).mono ?_); (case side1 => repeat (first | exact (Kd.R_reads' HO.out).2.2 | (with_reducible refine Kd.C_alloc ?_ _) | (with_reducible refine Kd.C_drewN ?_ _) | (with_reducible refine Kd.C_drew ?_))); (case side2 => exact (Kd.R_reads' HO.out).2.1); (case side3 => repeat (first | exact (Kd.C_below HRG.out HB.out) | (with_reducible refine Kd.C_alloc ?_ _) | (with_reducible refine Kd.C_drewN ?_ _) | (with_reducible refine Kd.C_drew ?_))); rintro e w3 ⟨rfl, hb⟩; have m_ := Aside0.mk (Kd.C_below (by repeat (first | exact C1.out | (with_reducible refine Kd.C_alloc ?_ _) | (with_reducible refine Kd.C_drewN ?_ _) | (with_reducible refine Kd.C_drew ?_))) hb); clear C1; have C1 := m_; clear m_; have m_ := Aside0.mk (Kd.C_below (by repeat (first | exact C2.out | (with_reducible refine Kd.C_alloc ?_ _) | (with_reducible refine Kd.C_drewN ?_ _) | (with_reducible refine Kd.C_drew ?_))) hb); clear C2; have C2 := m_; clear m_; have n0_ := Aside0.mk (below_step (by repeat (first | (with_reducible first | exact HB.out | apply lA_ | apply lN_ | apply lD_) | exact HB.out)) hb); clear HB; have HB := n0_; clear n0_; clear hb) | (go_at_call 60; (with_reducible refine (wots_Recover.calls k d _ _ vs p po _ ?side1 ?side2 ?side3 A3.out).mono ?_); (case side1 => repeat (first | exact C1.out | (with_reducible refine Kd.C_alloc ?_ _) | (with_reducible refine Kd.C_drewN ?_ _) | (with_reducible refine Kd.C_drew ?_))); (case side2 => exact Q1.out); (case side3 => repeat (first | exact (Kd.C_below HRG.out HB.out) | (with_reducible refine Kd.C_alloc ?_ _) | (with_reducible refine Kd.C_drewN ?_ _) | (with_reducible refine Kd.C_drew ?_))); rintro e w4 ⟨rfl, hb⟩; have m_ := Aside0.mk (Kd.C_below (by repeat (first | exact C2.out | (with_reducible refine Kd.C_alloc ?_ _) | (with_reducible refine Kd.C_drewN ?_ _) | (with_reducible refine Kd.C_drew ?_))) hb); clear C2; have C2 := m_; clear m_; have n0_ := Aside0.mk (below_step (by repeat (first | (with_reducible first | exact HB.out | apply lA_ | apply lN_ | apply lD_) | exact HB.out)) hb); clear HB; have HB := n0_; clear n0_; clear hb) | (go_at_call 61; (with_reducible refine (merkle_Fold.calls k p leaf _ _ ps q qo _ ?side1 ?side2 ?side3 A4.out).mono ?_); (case side1 => repeat (first | exact C2.out | (with_reducible refine Kd.C_alloc ?_ _) | (with_reducible refine Kd.C_drewN ?_ _) | (with_reducible refine Kd.C_drew ?_))); (case side2 => exact Q2.out); (case side3 => repeat (first | exact (Kd.C_below HRG.out HB.out) | (with_reducible refine Kd.C_alloc ?_ _) | (with_reducible refine Kd.C_drewN ?_ _) | (with_reducible refine Kd.C_drew ?_))); rintro e w5 ⟨rfl, hb⟩; have n0_ := Aside0.mk (below_step (by repeat (first | (with_reducible first | exact HB.out | apply lA_ | apply lN_ | apply lD_) | exact HB.out)) hb); clear HB; have HB := n0_; clear n0_; clear hb) | (go_at_call 62; (with_reducible refine (key_named.calls k (ps.length : Int) q x _ ?side1 A5.out).mono ?_); (case side1 => repeat (first | exact (Kd.C_below HRG.out HB.out) | (with_reducible refine Kd.C_alloc ?_ _) | (with_reducible refine Kd.C_drewN ?_ _) | (with_reducible refine Kd.C_drew ?_))); rintro e w6 ⟨rfl, hb⟩; have n0_ := Aside0.mk (below_step (by repeat (first | (with_reducible first | exact HB.out | apply lA_ | apply lN_ | apply lD_) | exact HB.out)) hb); clear HB; have HB := n0_; clear n0_; clear hb))
    go_ret
    exact ⟨rfl, HB.out⟩

/-! ### event_Check: function 23 -/
def event_Check.j0 : Nat → ByteArray → Bool → Int → ByteArray → List ByteArray → ByteArray → ByteArray → Option (Int)
 | 0, _, _, _, _, _, _, _ => none
 | k + 1, x3, x10, x489000, x489001, x489002, x489003, x489004 => if x10 = true then (some 2) else ((key_Verify.f k x489001 x3 x489004).bind fun t492 => (if t492 = true then (some 0) else (some 4)))
def event_Check.f (k : Nat) (a0_0 : Int) (a0_1 : ByteArray) (l0_2 : List ByteArray) (a0_3 : ByteArray) (a0_4 : ByteArray) : Option (Int) := (event_Content.f k a0_0 a0_1 l0_2 a0_3 a0_4).bind fun bt489 => (if bt489.2 = 0 then ((event_Right.f k a0_0 a0_1 l0_2 a0_3 a0_4).bind fun t491 => (event_Check.j0 k bt489.1 (!t491) a0_0 a0_1 l0_2 a0_3 a0_4)) else (event_Check.j0 k bt489.1 true a0_0 a0_1 l0_2 a0_3 a0_4))
theorem event_Check.mono_l : ∀ k, (∀ y0 y1 y2 y3 y4 y5 y6, LeO (event_Check.j0 k y0 y1 y2 y3 y4 y5 y6) (event_Check.j0 (k + 1) y0 y1 y2 y3 y4 y5 y6))
 | 0 => fun _ _ _ _ _ _ _ r h => by simp [event_Check.j0] at h
 | k + 1 => by
  have ih0 := event_Check.mono_l k
  ·intro y0 y1 y2 y3 y4 y5 y6
   unfold event_Check.j0
   repeat' first
   | (with_reducible exact ih0 _ _ _ _ _ _ _)
   | (with_reducible exact event_Content.mono _ _ _ _ _ _)
   | (with_reducible exact event_Right.mono _ _ _ _ _ _)
   | (with_reducible exact key_Verify.mono _ _ _ _)
   | (with_reducible exact LeO.refl _)
   | (with_reducible exact LeO.none _)
   | (with_reducible refine LeO.ite ?_ ?_)
   | (with_reducible refine LeO.bind ?_ (fun _ => ?_))
   | exact ih0 _ _ _ _ _ _ _
   | exact event_Content.mono _ _ _ _ _ _
   | exact event_Right.mono _ _ _ _ _ _
   | exact key_Verify.mono _ _ _ _
   | exact LeO.none _
   | refine LeO.ite ?_ ?_
   | refine LeO.bind ?_ (fun _ => ?_)
theorem event_Check.mono : ∀ a0 a1 a2 a3 a4 k, LeO (event_Check.f k a0 a1 a2 a3 a4) (event_Check.f (k + 1) a0 a1 a2 a3 a4) := by
 intro a0 a1 a2 a3 a4 k
 have ih0 := event_Check.mono_l k
 unfold event_Check.f
 repeat' first
  | (with_reducible exact ih0 _ _ _ _ _ _ _)
  | (with_reducible exact event_Content.mono _ _ _ _ _ _)
  | (with_reducible exact event_Right.mono _ _ _ _ _ _)
  | (with_reducible exact key_Verify.mono _ _ _ _)
  | (with_reducible exact LeO.refl _)
  | (with_reducible exact LeO.none _)
  | (with_reducible refine LeO.ite ?_ ?_)
  | (with_reducible refine LeO.bind ?_ (fun _ => ?_))
  | exact ih0 _ _ _ _ _ _ _
  | exact event_Content.mono _ _ _ _ _ _
  | exact event_Right.mono _ _ _ _ _ _
  | exact key_Verify.mono _ _ _ _
  | exact LeO.none _
  | refine LeO.ite ?_ ?_
  | refine LeO.bind ?_ (fun _ => ?_)
set_option maxHeartbeats 64000000 in
set_option maxRecDepth 100000 in
theorem event_Check.calls (k : Nat) (a0_0 : Int) (a0_1 : ByteArray) (A0_2 : Option Addr) (c0_2 : Nat) (l0_2 : List ByteArray) (a0_3 : ByteArray) (a0_4 : ByteArray) (r : Int) (w : World) (hr0_2 : Kd.C Kd.string w A0_2 l0_2.length l0_2) (hc0_2 : l0_2.length ≤ c0_2) (hrG : Kd.C (Kd.int .u32) w (some ⟨0, 0, none⟩) keysL.length keysL) (h : event_Check.f k a0_0 a0_1 l0_2 a0_3 a0_4 = some r) :
 Calls Tryd.prog 23 #[.agg #[.int .i64 a0_0, .string a0_1, .slice A0_2 l0_2.length c0_2, .string a0_3, .string a0_4]] w fun e w' => e = .returned (.int .i64 r) ∧ Below w.heap.size w w' := by
 have hu24 := Tryd.underlying24
 have HR0_2 := Aside0.mk hr0_2
 have HC0_2 := Aside0.mk hc0_2
 clear hr0_2 hc0_2
 have HRG := Aside0.mk hrG
 clear hrG
 have HB := Aside0.mk (Below.refl w.heap.size w)
 have H : ((event_Content.f k a0_0 a0_1 l0_2 a0_3 a0_4).bind fun bt489 => (if bt489.2 = 0 then ((event_Right.f k a0_0 a0_1 l0_2 a0_3 a0_4).bind fun t491 => (event_Check.j0 k bt489.1 (!t491) a0_0 a0_1 l0_2 a0_3 a0_4)) else (event_Check.j0 k bt489.1 true a0_0 a0_1 l0_2 a0_3 a0_4))) = some r := h
 clear h
 replace H := ob_ H
 obtain ⟨⟨t489, t490⟩, A20, H⟩ := H
 replace H : (if t490 = 0 then ((event_Right.f k a0_0 a0_1 l0_2 a0_3 a0_4).bind fun t491 => (event_Check.j0 k t489 (!t491) a0_0 a0_1 l0_2 a0_3 a0_4)) else (event_Check.j0 k t489 true a0_0 a0_1 l0_2 a0_3 a0_4)) = some r := H
 have A2 := Aside0.mk A20
 clear A20
 have HC3 := Aside0.mk H
 clear H
 go_enter Tryd.func23, Tryd.ntmps23
 go_upto_region 2 with (first | ((with_reducible refine gate_dst (N := 1) rfl ?_); refine box_event ?hg (N := 1) ?hd (cs := #[.int .i64 a0_0, .string a0_1, .slice A0_2 l0_2.length c0_2, .string a0_3, .string a0_4]) (t := 24) ?hr ?_; (case hd => rfl); (case hg => rfl); (case hr => exact gr_); intro gb488 hg w4 hbox hb; have GE488 := Aside0.mk ((by rw [hg]; exact (below_size bl_) : w.heap.size ≤ gb488)); have GW488 := Aside0.mk ((by rw [hg]; exact (below_size bl_) : w.heap.size ≤ gb488)); have BK488 := Aside0.mk (hbox); replace HB := Aside0.mk (below_step bl_ hb); clear hb hbox hg; obtain ⟨hcz5_0, hcz5_1, hcz5_2, hcz5_3, hcz5_4⟩ := c5_ BK488.out; obtain ⟨hfz5_0, hfz5_1, hfz5_2, hfz5_3, hfz5_4⟩ := f5_ BK488.out) | ((with_reducible refine gate_callee (f := 12) rfl ?_); refine gL_ 7 Tryd.func12 #[.agg #[.int .i64 a0_0, .string a0_1, .slice A0_2 l0_2.length c0_2, .string a0_3, .string a0_4]] ?_; (with_reducible refine (event_Content.calls k a0_0 a0_1 _ _ l0_2 a0_3 a0_4 t489 t490 _ ?side1 ?side2 A2.out).mono ?_); (case side1 => repeat (first | exact (Kd.C_below HR0_2.out HB.out) | (with_reducible refine Kd.C_alloc ?_ _) | (with_reducible refine Kd.C_drewN ?_ _) | (with_reducible refine Kd.C_drew ?_))); (case side2 => exact HC0_2.out); rintro e w6 ⟨rfl, hb⟩; refine ⟨_, rfl, ?_⟩; replace HB := Aside0.mk (below_step (bs_ GE488.out) hb); replace BK488 := Aside0.mk (blk_below (g := gb488) (o := .cells #[.int .i64 a0_0, .string a0_1, .slice A0_2 l0_2.length c0_2, .string a0_3, .string a0_4] 24 (0, 0)) (mb_ BK488.out) hb); clear hb))
 go_cut [10] (fun v10 wc => ∃ (kq : Nat) (x10_2 : Bool), v10 = .bool x10_2 ∧ Aside0 (event_Check.j0 kq t489 x10_2 a0_0 a0_1 l0_2 a0_3 a0_4 = some r) ∧ Aside0 (kq ≤ k) ∧ Aside0 (wc.heap[gb488]? = some (.cells #[.int .i64 a0_0, .string a0_1, (.slice A0_2 l0_2.length c0_2), .string a0_3, .string a0_4] 24 (0, 0))) ∧ Aside0 (Below w.heap.size w wc))
 case first =>
  have H := HC3.out
  clear HC3
  by_cases c7 : t490 = 0
  ·rw [if_pos c7] at H
   have c7b0 : (t490 == 0) = true := beq_iff_eq.mpr c7
   have c7b1 : (t490 != 0) = false := bne_eq_false_iff_eq.mpr c7
   clear c7
   (first | rw [c7b0] | (simp only [i64_w, i32_w]; rw [c7b0]) | skip)
   revert H; refine oa_ fun t491 A8 H => ?_
   have H' := Aside0.mk H
   clear H
   obtain ⟨hcz9_0, hcz9_1, hcz9_2, hcz9_3, hcz9_4⟩ := c5_ BK488.out
   obtain ⟨hfz9_0, hfz9_1, hfz9_2, hfz9_3, hfz9_4⟩ := f5_ BK488.out
   go_wp2_with (first | (go_at_call 13; (with_reducible refine (event_Right.calls k a0_0 a0_1 _ _ l0_2 a0_3 a0_4 t491 _ ?side1 ?side2 A8.out).mono ?_); (case side1 => repeat (first | exact (Kd.C_below HR0_2.out HB.out) | (with_reducible refine Kd.C_alloc ?_ _) | (with_reducible refine Kd.C_drewN ?_ _) | (with_reducible refine Kd.C_drew ?_))); (case side2 => exact HC0_2.out); rintro e w10 ⟨rfl, hb⟩; replace HB := Aside0.mk (below_step (bs_ GE488.out) hb); replace BK488 := Aside0.mk (blk_below (g := gb488) (o := .cells #[.int .i64 a0_0, .string a0_1, .slice A0_2 l0_2.length c0_2, .string a0_3, .string a0_4] 24 (0, 0)) (mb_ BK488.out) hb); clear hb))
   go_meet
   case rel => exact ⟨_, (!t491), vq_, H', ⟨by first | omega | exact Nat.le_refl _⟩, ⟨mb_ BK488.out⟩, ⟨bs_ GE488.out⟩⟩
  rw [if_neg c7] at H
  have c7b0 : (t490 == 0) = false := beq_eq_false_iff_ne.mpr c7
  have c7b1 : (t490 != 0) = true := bne_iff_ne.mpr c7
  (first | rw [c7b0] | (simp only [i64_w, i32_w]; rw [c7b0]) | skip)
  have H' := Aside0.mk H
  clear H
  go_wp2
  go_meet
  case rel => exact ⟨_, (true), vq_, H', ⟨by first | omega | exact Nat.le_refl _⟩, ⟨mb_ BK488.out⟩, ⟨bs_ GE488.out⟩⟩
 case rest =>
  clear HC3
  clear hcz5_0 hcz5_1 hcz5_2 hcz5_3 hcz5_4 hfz5_0 hfz5_1 hfz5_2 hfz5_3 hfz5_4
  obtain ⟨kq, x10_2, rfl, HA, HJ2, BK488, HB⟩ := hcut
  cases kq with
  | zero => exact absurd HA.out (by simp [event_Check.j0])
  | succ kj2 =>
   have H := HA.out
   clear HA
   simp only [event_Check.j0] at H
   by_cases c11 : x10_2 = true
   ·subst c11
    have H1 : (some 2) = some r := by rw [if_pos rfl] at H; exact H
    clear H
    have H := H1
    clear H1
    obtain rfl := Option.some.inj H
    go_wp2
    go_ret
    exact ⟨er_, bs_ GE488.out⟩
   replace c11 := Bool.eq_false_iff.mpr c11
   subst c11
   have H1 : ((key_Verify.f kj2 a0_1 t489 a0_4).bind fun t492 => (if t492 = true then (some 0) else (some 4))) = some r := by rw [if_neg (show ¬ (false = true) by decide)] at H; exact H
   clear H
   have H := H1
   clear H1
   revert H; refine oa_ fun t492 A12 H => ?_
   by_cases c13 : t492 = true
   ·subst c13
    have H1 : (some 0) = some r := by rw [if_pos rfl] at H; exact H
    clear H
    have H := H1
    clear H1
    obtain rfl := Option.some.inj H
    obtain ⟨hcz14_0, hcz14_1, hcz14_2, hcz14_3, hcz14_4⟩ := c5_ BK488.out
    obtain ⟨hfz14_0, hfz14_1, hfz14_2, hfz14_3, hfz14_4⟩ := f5_ BK488.out
    go_wp2_with (first | ((with_reducible refine gate_callee (f := 39) rfl ?_); refine gL_ 24 Tryd.func39 #[.string a0_1, .string t489, .string a0_4] ?_; (with_reducible refine (key_Verify.calls kj2 a0_1 t489 a0_4 true _ ?side1 A12.out).mono ?_); (case side1 => repeat (first | exact (Kd.C_below HRG.out HB.out) | (with_reducible refine Kd.C_alloc ?_ _) | (with_reducible refine Kd.C_drewN ?_ _) | (with_reducible refine Kd.C_drew ?_))); rintro e w15 ⟨rfl, hb⟩; refine ⟨_, rfl, ?_⟩; replace HB := Aside0.mk (below_step (bs_ GE488.out) hb); replace BK488 := Aside0.mk (blk_below (g := gb488) (o := .cells #[.int .i64 a0_0, .string a0_1, .slice A0_2 l0_2.length c0_2, .string a0_3, .string a0_4] 24 (0, 0)) (mb_ BK488.out) hb); clear hb))
    go_ret
    exact ⟨er_, bs_ GE488.out⟩
   replace c13 := Bool.eq_false_iff.mpr c13
   subst c13
   have H1 : (some 4) = some r := by rw [if_neg (show ¬ (false = true) by decide)] at H; exact H
   clear H
   have H := H1
   clear H1
   obtain rfl := Option.some.inj H
   obtain ⟨hcz16_0, hcz16_1, hcz16_2, hcz16_3, hcz16_4⟩ := c5_ BK488.out
   obtain ⟨hfz16_0, hfz16_1, hfz16_2, hfz16_3, hfz16_4⟩ := f5_ BK488.out
   go_wp2_with (first | ((with_reducible refine gate_callee (f := 39) rfl ?_); refine gL_ 24 Tryd.func39 #[.string a0_1, .string t489, .string a0_4] ?_; (with_reducible refine (key_Verify.calls kj2 a0_1 t489 a0_4 false _ ?side1 A12.out).mono ?_); (case side1 => repeat (first | exact (Kd.C_below HRG.out HB.out) | (with_reducible refine Kd.C_alloc ?_ _) | (with_reducible refine Kd.C_drewN ?_ _) | (with_reducible refine Kd.C_drew ?_))); rintro e w17 ⟨rfl, hb⟩; refine ⟨_, rfl, ?_⟩; replace HB := Aside0.mk (below_step (bs_ GE488.out) hb); replace BK488 := Aside0.mk (blk_below (g := gb488) (o := .cells #[.int .i64 a0_0, .string a0_1, .slice A0_2 l0_2.length c0_2, .string a0_3, .string a0_4] 24 (0, 0)) (mb_ BK488.out) hb); clear hb))
   go_ret
   exact ⟨er_, bs_ GE488.out⟩

end Go.Proofs.YtmedpnclkbkiiaaDoor.PP
