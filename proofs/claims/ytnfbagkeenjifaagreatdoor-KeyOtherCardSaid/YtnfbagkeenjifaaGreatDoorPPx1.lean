-- WRITTEN BY a program of this work (wip/ownprint.py), for this seat
import Derived.Test.YtnfbagkeenjifaaGreatDoorPPx0
namespace Go.Proofs.YtnfbagkeenjifaaGreatDoor.PP
open Go.RowKit Go.Proofs.YtnfbagkeenjifaaGreatDoorW.PrintWords Go.Proofs.YtnfbagkeenjifaaGreatDoorW.PrintLast Go.Proofs.YtnfbagkeenjifaaGreatDoorW.PrintMore
attribute [local go_sem] max2_int min2_int max_two min_two max_three min_three max_four min_four   -- for this text's walks alone
set_option linter.unusedVariables false
set_option linter.unusedSimpArgs false

/-! ### octets_laid: function 80 -/
mutual
def octets_laid.j0 : Nat → Int → Int → Bool → Option (ByteArray × Bool)
 | 0, _, _, _ => none
 | k + 1, x0, x1, x16 => if x16 = true then (some ((⟨#[]⟩ : ByteArray), false)) else (if 0 ≤ x1 then (if (x1 : Int).toNat ≤ 281474976710656 then ((some (List.replicate (x1 : Int).toNat 0 : List Int)).bind fun y101 => (octets_laid.l0 k x0 x1 y101 (y101.length : Int) 0)) else (none)) else (none))
def octets_laid.l0 : Nat → Int → Int → List Int → Int → Int → Option (ByteArray × Bool)
 | 0, _, _, _, _, _ => none
 | k + 1, x0, x1, x6, x20, x21 => if x21 < x20 then (if 0 ≤ (wrap64 (8 * x21)) then (if 0 ≤ (wrap64 ((wrap64 (x1 - 1)) - x21)) then (if (wrap64 ((wrap64 (x1 - 1)) - x21)) < (x6.length : Int) then (octets_laid.l0 k x0 x1 (x6.set ((wrap64 ((wrap64 (x1 - 1)) - x21)) : Int).toNat ((shr .i64 x0 (wrap64 (8 * x21))) % 256)) x20 (wrap64 (x21 + 1))) else (none)) else (none)) else (none)) else (some (strOfNums x6, true))
end
def octets_laid.f (k : Nat) (a0 : Int) (a1 : Int) : Option (ByteArray × Bool) := if a0 < 0 then (octets_laid.j0 k a0 a1 true) else (if 0 ≤ (wrap64 (8 * a1)) then (octets_laid.j0 k a0 a1 ((shr .i64 a0 (wrap64 (8 * a1))) != 0)) else (none))
theorem octets_laid.mono_l : ∀ k, (∀ y0 y1 y2, LeO (octets_laid.j0 k y0 y1 y2) (octets_laid.j0 (k + 1) y0 y1 y2)) ∧ (∀ y0 y1 y2 y3 y4, LeO (octets_laid.l0 k y0 y1 y2 y3 y4) (octets_laid.l0 (k + 1) y0 y1 y2 y3 y4))
 | 0 => ⟨fun _ _ _ r h => by simp [octets_laid.j0] at h, fun _ _ _ _ _ r h => by simp [octets_laid.l0] at h⟩
 | k + 1 => by
  obtain ⟨ih0, ih1⟩ := octets_laid.mono_l k
  refine ⟨?_, ?_⟩ <;> intros <;> (first | unfold octets_laid.j0 | unfold octets_laid.l0) <;> repeat' first
  | (with_reducible exact ih0 _ _ _)
  | (with_reducible exact ih1 _ _ _ _ _)
  | (with_reducible exact LeO.refl _)
  | (with_reducible exact LeO.none _)
  | (with_reducible refine LeO.ite ?_ ?_)
  | (with_reducible refine LeO.bind ?_ (fun _ => ?_))
  | exact ih0 _ _ _
  | exact ih1 _ _ _ _ _
  | exact LeO.none _
  | refine LeO.ite ?_ ?_
  | refine LeO.bind ?_ (fun _ => ?_)
theorem octets_laid.mono : ∀ a0 a1 k, LeO (octets_laid.f k a0 a1) (octets_laid.f (k + 1) a0 a1) := by
 intro a0 a1 k
 obtain ⟨ih0, ih1⟩ := octets_laid.mono_l k
 unfold octets_laid.f
 repeat' first
  | (with_reducible exact ih0 _ _ _)
  | (with_reducible exact ih1 _ _ _ _ _)
  | (with_reducible exact LeO.refl _)
  | (with_reducible exact LeO.none _)
  | (with_reducible refine LeO.ite ?_ ?_)
  | (with_reducible refine LeO.bind ?_ (fun _ => ?_))
  | exact ih0 _ _ _
  | exact ih1 _ _ _ _ _
  | exact LeO.none _
  | refine LeO.ite ?_ ?_
  | refine LeO.bind ?_ (fun _ => ?_)
set_option maxHeartbeats 64000000 in
set_option maxRecDepth 100000 in
theorem octets_laid.calls (k : Nat) (a0 : Int) (a1 : Int) (r1 : ByteArray) (r2 : Bool) (w : World) (h : octets_laid.f k a0 a1 = some (r1, r2)) :
 Calls Tryz.prog 80 #[.int .i64 a0, .int .i64 a1] w fun e w' => e = .returned (.tuple #[.string r1, .bool r2]) ∧ Below w.heap.size w w' := by
 have HB := Aside0.mk (Below.refl w.heap.size w)
 have H : (if a0 < 0 then (octets_laid.j0 k a0 a1 true) else (if 0 ≤ (wrap64 (8 * a1)) then (octets_laid.j0 k a0 a1 ((shr .i64 a0 (wrap64 (8 * a1))) != 0)) else (none))) = some (r1, r2) := h
 clear h
 have HC3 := Aside0.mk H
 clear H
 go_enter Tryz.func80, Tryz.ntmps80
 go_upto_region 1 with (fail)
 go_cut [16] (fun v16 wc => ∃ (kq : Nat) (x16_2 : Bool), v16 = .bool x16_2 ∧ Aside0 (octets_laid.j0 kq a0 a1 x16_2 = some (r1, r2)) ∧ Aside0 (kq ≤ k) ∧ Aside0 (Below w.heap.size w wc))
 case first =>
  have H := HC3.out
  clear HC3
  by_cases c4 : a0 < 0
  ·rw [if_pos c4] at H
   have c4b0 : decide (a0 < 0) = true := decide_eq_true c4
   clear c4
   (first | rw [c4b0] | (simp only [i64_w, i32_w]; rw [c4b0]) | skip)
   have H' := Aside0.mk H
   clear H
   go_wp2
   go_meet
   case rel => exact ⟨_, (true), vq_, H', ⟨by first | omega | exact Nat.le_refl _⟩, ⟨bl_⟩⟩
  rw [if_neg c4] at H
  have c4b0 : decide (a0 < 0) = false := decide_eq_false c4
  clear c4
  (first | rw [c4b0] | (simp only [i64_w, i32_w]; rw [c4b0]) | skip)
  generalize hji5 : (wrap64 (8 * a1)) = ji5 at H
  have hji5w := (i64_w _).trans hji5
  revert H; refine ne_ fun c6 c6b0 c6b1 H => ?_
  clear c6
  generalize hji7 : (shr .i64 a0 (ji5)) = ji7 at H
  have hji7_ : (a0 / 2 ^ min (ji5).toNat 64) = ji7 := hji7
  have hji7z : (ji5) ≤ 64 → (a0 / 2 ^ (ji5).toNat) = ji7 := shr_small hji7
  (try (have hji7n : (0 ≤ (ji5)) = True := eq_true (by omega)))
  have H' := Aside0.mk H
  clear H
  go_wp2
  go_meet
  case rel => exact ⟨_, (((ji7) != 0)), (by first | rfl | (simp; done) | (simp only [← hji7] <;> (first | rfl | simp)) | (simp [*]; done) | exact congrArg Value.bool (nonempty_l _) | (refine congrArg (Value.int _) ?_; first | omega | (unfold wrap64; omega))), H', ⟨by first | omega | exact Nat.le_refl _⟩, ⟨bl_⟩⟩
 case rest =>
  clear HC3
  (try clear p2); (try clear c4); (try clear c4b0); (try clear c6); (try clear c6b0); (try clear c6b1); (try clear p6)
  obtain ⟨kq, x16_2, rfl, HA, HJ2, HB⟩ := hcut
  cases kq with
  | zero => exact absurd HA.out (by simp [octets_laid.j0])
  | succ kj2 =>
   have H := HA.out
   clear HA
   simp only [octets_laid.j0] at H
   by_cases c8 : x16_2 = true
   ·subst c8
    have H1 : (some ((⟨#[]⟩ : ByteArray), false)) = some (r1, r2) := by rw [if_pos rfl] at H; exact H
    clear H
    have H := H1
    clear H1
    simp only [Option.some.injEq, Prod.mk.injEq] at H
    obtain ⟨rfl, rfl⟩ := H
    go_wp2
    go_ret2
    exact ⟨er_, bl_⟩
   replace c8 := Bool.eq_false_iff.mpr c8
   subst c8
   have H1 : (if 0 ≤ a1 then (if (a1 : Int).toNat ≤ 281474976710656 then ((some (List.replicate (a1 : Int).toNat 0 : List Int)).bind fun y101 => (octets_laid.l0 kj2 a0 a1 y101 (y101.length : Int) 0)) else (none)) else (none)) = some (r1, r2) := by rw [if_neg (show ¬ (false = true) by decide)] at H; exact H
   clear H
   have H := H1
   clear H1
   revert H; refine ne_ fun c9 c9b0 c9b1 => ne_ fun c10 c10b0 c10b1 => oy_ fun y101 Ny101 H => ?_
   clear c9 c10
   have H' := Aside0.mk H
   clear H
   go_wp2_with (first | ((with_reducible refine gate_dst (N := 18) rfl ?_); refine Kd.R_make (Kd.int .u8) _ 5 rfl (N := 18) rfl 39 _ _ rfl a1 rfl rfl Tryz.underlying39 (.int .u8 0) 1 info5 rfl (by decide) (by omega) 0 (ok := fun _ => True) (okp := fun _ => True) rfl (fun _ hk => hk) trivial (ae_) (Nat.le_trans (Nat.mul_le_mul_right _ (ae_ : a1.toNat ≤ 281474976710656)) (by omega)) (Below.refl _ _) (Nat.le_refl _) ?_; intro v102 w11 ho12 hb hg_ hnew_; clear hg_ hnew_; (first | rw [← Ny101.out] at ho12 | (simp only [Int.reduceToNat] at ho12; rw [← Ny101.out] at ho12)); have HO103 := Aside0.mk (Kd.R_lower ho12 (below_size bl_)); replace HB := Aside0.mk (below_step bl_ hb); clear hb ho12; obtain ⟨Ao13, co13, eo13⟩ := Kd.R_slice HO103.out; subst eo13))
   go_loopg [21] kj2 (fun kq v21 w' => ∃ (x6_2 : List Int) (x21_2 : Int), v21 = .int .i64 x21_2 ∧ Aside0 (octets_laid.l0 kq a0 a1 x6_2 (y101.length : Int) x21_2 = some (r1, r2)) ∧ Aside0 (kq ≤ kj2) ∧ Aside0 (Kd.R (Kd.int .u8) 5 w' w.heap.size (fun _ => True) (.slice Ao13 y101.length co13) x6_2) ∧ Aside0 (Below w.heap.size w w'))
   case atStart => exact ⟨(y101), (0), vq_, H', ⟨Nat.le_refl _⟩, ⟨mv_ HO103.out⟩, ⟨bl_⟩⟩
   case round =>
    clear H'
    (try clear c1); (try clear p2); (try clear c4); (try clear c4b0); (try clear c6); (try clear c6b0); (try clear c6b1); (try clear p6); (try clear c8); (try clear c9); (try clear c9b0); (try clear c9b1); (try clear c10); (try clear c10b0); (try clear c10b1); (try clear p2); (try clear p6)
    obtain ⟨x6_2, x21_2, rfl, HA, HK2, HO_6, HB⟩ := hrel
    have hl6_2 := (Kd.R_reads' HO_6.out).1
    rw [hl6_2] at HO_6
    (try simp only [hl6_2])
    cases gk with
    | zero => exact absurd HA.out (by simp [octets_laid.l0])
    | succ k2 =>
     have H := HA.out
     clear HA
     simp only [octets_laid.l0] at H
     by_cases c14 : x21_2 < (y101.length : Int)
     ·rw [if_pos c14] at H
      have c14b0 : decide (x21_2 < (y101.length : Int)) = true := decide_eq_true c14
      (try (have c14b7 := c14b0; simp only [hl6_2] at c14b7))
      clear c14
      generalize hji15 : (wrap64 (8 * x21_2)) = ji15 at H
      have hji15w := (i64_w _).trans hji15
      revert H; refine ne_ fun c16 c16b0 c16b1 H => ?_
      clear c16
      generalize hji17 : (shr .i64 a0 (ji15)) = ji17 at H
      have hji17_ : (a0 / 2 ^ min (ji15).toNat 64) = ji17 := hji17
      have hji17z : (ji15) ≤ 64 → (a0 / 2 ^ (ji15).toNat) = ji17 := shr_small hji17
      (try (have hji17n : (0 ≤ (ji15)) = True := eq_true (by omega)))
      generalize hji18 : (wrap64 ((wrap64 (a1 - 1)) - x21_2)) = ji18 at H
      have hji18w := (i64_w _).trans hji18
      revert H; refine nd_ fun c19 c19b0 => nd_ fun c20 c20b0 H => ?_
      (try (have c19b7 := c19b0; simp only [hl6_2] at c19b7))
      (try (have c20b7 := c20b0; simp only [hl6_2] at c20b7))
      clear c19 c20
      generalize e_ : (x6_2.set ((ji18) : Int).toNat ((ji17) % 256) : List Int) = y104 at H
      have Ny104 := Aside0.mk e_.symm
      clear e_
      have H' := Aside0.mk H
      clear H
      have p21 : 0 ≤ ((ji18) : Int) := ae_
      have q21 : ((ji18) : Int) < ((x6_2.length : Int) : Int) := ae_
      obtain ⟨go21, co21, eo21, gb21, gl21, cl21, HG21⟩ := Kd.R_form HO_6.out (by omega)
      (first | cases eo21 | (injection eo21 with ea_ en_ ec_; (first | subst ea_ | (injection ea_ with ea_; subst ea_)); subst ec_; clear en_))
      have GB21 := Aside0.mk gb21
      have GG21 := Aside0.mk HG21
      clear gb21 gl21 HG21
      obtain ⟨hx21_0, hf21_0⟩ := Kd.R_celln 0 HO_6.out ((ji18) : Int) p21 q21
      replace p21 := eq_true p21
      replace q21 := eq_true q21
      have HP22 := Kd.R_putg HO_6.out ((ji18) : Int) ((ji17) % 256)
      go_wp2_with (first | ((with_reducible refine gate_store (t := 5) (p := 34) rfl ?_); refine store_event (t := 5) (p := 34) (v := ?vo_w23) (w1 := (wr.setCell ⟨go21, ((ji18) : Int).toNat, none⟩ (.int .u8 ((ji17) % 256)))) ?hg ?ho ?hn ?hr ?_; (case ho => rfl); (case hg => rfl); (case hn => rfl); (case hr => exact gr_); intro w23 hw; have hg : wr.grownBy w23 (some go21) := (by rw [hw]; exact HP22.2); have hp_ : Kd.R (Kd.int .u8) 5 w23 w.heap.size (fun _ => True) (.slice (some ⟨go21, 0, none⟩) x6_2.length co13) y104 := (by rw [hw, Ny104.out]; exact HP22.1); clear HP22; replace HB := Aside0.mk ((by rw [hw]; exact below_set (HB.out) GB21.out : Below w.heap.size w w23)); replace HO_6 := Aside0.mk (hp_); clear hg hw hp_))
      (try simp only [← hl6_2])
      go_roundg k2
      case measure => have := HJ2.out; have := HK2.out; omega
      case rel => exact ⟨(y104), (wrap64 (x21_2 + 1)), vq_, H', ⟨by have := HJ2.out; have := HK2.out; omega⟩, ⟨by (try simp only [hl6_2]); refine mv_ ?_; exact HO_6.out⟩, ⟨bl_⟩⟩
     rw [if_neg c14] at H
     have c14b0 : decide (x21_2 < (y101.length : Int)) = false := decide_eq_false c14
     (try (have c14b7 := c14b0; simp only [hl6_2] at c14b7))
     clear c14
     simp only [Option.some.injEq, Prod.mk.injEq] at H
     obtain ⟨rfl, rfl⟩ := H
     have hcv24 := own_string (P := Tryz.prog) Tryz.underlying39 Tryz.underlying5 Tryz.underlying9 (Kd.own_of_R HO_6.out)
     go_wp2
     go_ret2
     exact ⟨er_, bl_⟩

/-! ### octets_Short: function 48 -/
def octets_Short.f (k : Nat) (a0 : Int) : Option (ByteArray × Bool) := (octets_laid.f k a0 2).bind fun bt105 => (some (bt105.1, bt105.2))
theorem octets_Short.mono : ∀ a0 k, LeO (octets_Short.f k a0) (octets_Short.f (k + 1) a0) := by
 intro a0 k
 unfold octets_Short.f
 repeat' first
  | (with_reducible exact octets_laid.mono _ _ _)
  | (with_reducible exact LeO.refl _)
  | (with_reducible exact LeO.none _)
  | (with_reducible refine LeO.ite ?_ ?_)
  | (with_reducible refine LeO.bind ?_ (fun _ => ?_))
  | exact octets_laid.mono _ _ _
  | exact LeO.none _
  | refine LeO.ite ?_ ?_
  | refine LeO.bind ?_ (fun _ => ?_)
set_option maxHeartbeats 64000000 in
set_option maxRecDepth 100000 in
theorem octets_Short.calls (k : Nat) (a0 : Int) (r1 : ByteArray) (r2 : Bool) (w : World) (h : octets_Short.f k a0 = some (r1, r2)) :
 Calls Tryz.prog 48 #[.int .i64 a0] w fun e w' => e = .returned (.tuple #[.string r1, .bool r2]) ∧ Below w.heap.size w w' := by
 have HB := Aside0.mk (Below.refl w.heap.size w)
 have H : ((octets_laid.f k a0 2).bind fun bt105 => (some (bt105.1, bt105.2))) = some (r1, r2) := h
 clear h
 replace H := ob_ H
 obtain ⟨⟨t105, t106⟩, A20, H⟩ := H
 replace H : (some (t105, t106)) = some (r1, r2) := H
 have A2 := Aside0.mk A20
 clear A20
 simp only [Option.some.injEq, Prod.mk.injEq] at H
 obtain ⟨rfl, rfl⟩ := H
 go_enter Tryz.func48, Tryz.ntmps48
 go_wp2_with (first | ((with_reducible refine gate_callee (f := 80) rfl ?_); refine gL_ 5 Tryz.func80 #[.int .i64 a0, .int .i64 2] ?_; (with_reducible refine (octets_laid.calls k a0 2 t105 t106 _ A2.out).mono ?_); rintro e w3 ⟨rfl, hb⟩; refine ⟨_, rfl, ?_⟩; replace HB := Aside0.mk (below_step bl_ hb); clear hb))
 go_ret2
 exact ⟨er_, bl_⟩

/-! ### octets_Text: function 95 -/
def octets_Text.f (k : Nat) (a0 : ByteArray) : Option (ByteArray × Bool) := if (a0.size : Int) > 65535 then (some ((⟨#[]⟩ : ByteArray), false)) else ((octets_Short.f k (a0.size : Int)).bind fun bt107 => (if bt107.1.size + a0.size ≤ 9223372036854775807 then (some (bt107.1 ++ a0, true)) else (none)))
theorem octets_Text.mono : ∀ a0 k, LeO (octets_Text.f k a0) (octets_Text.f (k + 1) a0) := by
 intro a0 k
 unfold octets_Text.f
 repeat' first
  | (with_reducible exact octets_Short.mono _ _)
  | (with_reducible exact LeO.refl _)
  | (with_reducible exact LeO.none _)
  | (with_reducible refine LeO.ite ?_ ?_)
  | (with_reducible refine LeO.bind ?_ (fun _ => ?_))
  | exact octets_Short.mono _ _
  | exact LeO.none _
  | refine LeO.ite ?_ ?_
  | refine LeO.bind ?_ (fun _ => ?_)
set_option maxHeartbeats 64000000 in
set_option maxRecDepth 100000 in
theorem octets_Text.calls (k : Nat) (a0 : ByteArray) (r1 : ByteArray) (r2 : Bool) (w : World) (h : octets_Text.f k a0 = some (r1, r2)) :
 Calls Tryz.prog 95 #[.string a0] w fun e w' => e = .returned (.tuple #[.string r1, .bool r2]) ∧ Below w.heap.size w w' := by
 have HB := Aside0.mk (Below.refl w.heap.size w)
 have H : (if (a0.size : Int) > 65535 then (some ((⟨#[]⟩ : ByteArray), false)) else ((octets_Short.f k (a0.size : Int)).bind fun bt107 => (if bt107.1.size + a0.size ≤ 9223372036854775807 then (some (bt107.1 ++ a0, true)) else (none)))) = some (r1, r2) := h
 clear h
 by_cases c2 : (a0.size : Int) > 65535
 ·rw [if_pos c2] at H
  have c2b0 : decide (65535 < (a0.size : Int)) = true := decide_eq_true c2
  have c2b1 : decide (65535 < a0.size) = true := decide_eq_true (by omega)
  clear c2
  simp only [Option.some.injEq, Prod.mk.injEq] at H
  obtain ⟨rfl, rfl⟩ := H
  go_enter Tryz.func95, Tryz.ntmps95
  go_wp2
  go_ret2
  exact ⟨er_, bl_⟩
 rw [if_neg c2] at H
 have c2b0 : decide (65535 < (a0.size : Int)) = false := decide_eq_false c2
 have c2b1 : decide (65535 < a0.size) = false := decide_eq_false (by omega)
 clear c2
 replace H := ob_ H
 obtain ⟨⟨t107, t108⟩, A30, H⟩ := H
 replace H : (if t107.size + a0.size ≤ 9223372036854775807 then (some (t107 ++ a0, true)) else (none)) = some (r1, r2) := H
 have A3 := Aside0.mk A30
 clear A30
 revert H; refine ne_ fun c4 c4b0 c4b1 H => ?_
 try have c4b2 : (9223372036854775807 < t107.size + a0.size) = False := eq_false (Nat.not_lt.2 c4)
 simp only [Option.some.injEq, Prod.mk.injEq] at H
 obtain ⟨rfl, rfl⟩ := H
 go_enter Tryz.func95, Tryz.ntmps95
 go_wp2_with (first | ((with_reducible refine gate_callee (f := 48) rfl ?_); refine gL_ 12 Tryz.func48 #[.int .i64 (a0.size : Int)] ?_; (with_reducible refine (octets_Short.calls k (a0.size : Int) t107 t108 _ A3.out).mono ?_); rintro e w5 ⟨rfl, hb⟩; refine ⟨_, rfl, ?_⟩; replace HB := Aside0.mk (below_step bl_ hb); clear hb))
 go_ret2
 exact ⟨er_, bl_⟩

/-! ### palaverlaw05_long: function 9 -/
def palaverlaw05_long.f (a0 : ByteArray) : Option (Bool) := some (decide ((a0.size : Int) > 300))
set_option maxHeartbeats 64000000 in
set_option maxRecDepth 100000 in
theorem palaverlaw05_long.calls (a0 : ByteArray) (r : Bool) (w : World) (h : palaverlaw05_long.f a0 = some r) :
 Calls Tryz.prog 9 #[.string a0] w fun e w' => e = .returned (.bool r) ∧ Drawn0 w w' := by
 have H : (some (decide ((a0.size : Int) > 300))) = some r := h
 clear h
 obtain rfl := Option.some.inj H
 go_enter Tryz.func9, Tryz.ntmps9
 go_wp2
 go_ret
 exact ⟨by first | rfl | (simp; done) | (simp [*]; done) | exact congrArg Value.bool (nonempty_l _) | (refine congrArg (Value.int _) ?_; first | omega | (unfold wrap64; omega)), by repeat (first | exact Drawn0.refl _ | apply Drawn0.step)⟩

-- NOT PRINTED: function 77 (atomic_StoreInt32)

-- NOT PRINTED: function 45 (atomic_Int32_Store)

-- NOT PRINTED: function 15 (key_New)

/-! ### sha_begin: function 104 -/
def sha_begin.f : Option Unit := some ()
set_option maxHeartbeats 8000000 in
set_option maxRecDepth 100000 in
theorem sha_begin.calls (w : World) (h : sha_begin.f = some ()) :
    Calls Tryz.prog 104 #[] w fun e w' => e = .returned (.agg #[.int .u32 1779033703, .int .u32 3144134277, .int .u32 1013904242, .int .u32 2773480762, .int .u32 1359893119, .int .u32 2600822924, .int .u32 528734635, .int .u32 1541459225]) ∧ Below w.heap.size w w' := by
  go_enter Tryz.func104, Tryz.ntmps104
  go_wp2_with (first
    | ((with_reducible refine gate_dst (N := 0) rfl ?_); refine Kd.event_run (w1 := w.alloc (.cells (encs (Value.int .u32) (List.replicate 8 0)).toArray 140)) (v := .pointer (some ⟨w.heap.size, 0, none⟩)) ?hg ?hr ?_; (case hg => rfl); (case hr => first | (go_simp; done) | (go_simp; rfl)); obtain ⟨W1, hW1⟩ : ∃ W1, W1 = w.alloc (.cells (encs (Value.int .u32) (List.replicate 8 0)).toArray 140) := ⟨_, rfl⟩; rw [← hW1]; have hh : W1.heap[w.heap.size]? = some (.cells (encs (Value.int .u32) (List.replicate 8 0)).toArray 140 (0, 0)) := (by rw [hW1]; exact heap_alloc_new w _); have hb : Below w.heap.size w W1 := (by rw [hW1]; exact below_alloc (Below.refl _ _) _); clear hW1)
    | ((with_reducible refine gate_store (t := 140) (p := 0) rfl ?_); refine store_event (t := 140) (p := 0) (v := ?vo) (w1 := W1.setCells w.heap.size 0 (encs (Value.int .u32) [1779033703, 3144134277, 1013904242, 2773480762, 1359893119, 2600822924, 528734635, 1541459225])) ?hg ?ho ?hn ?hr ?_; (case ho => rfl); (case hg => rfl); (case hn => rfl); (case hr => exact store_run0 [1779033703, 3144134277, 1013904242, 2773480762, 1359893119, 2600822924, 528734635, 1541459225] rfl rfl rfl (by kernel_rfl) hh (by rfl)); intro W2 hw; have hh2 := store_heap0 (encs (Value.int .u32) [1779033703, 3144134277, 1013904242, 2773480762, 1359893119, 2600822924, 528734635, 1541459225]) hh (by rfl); have hb2 := store_below0 (encs (Value.int .u32) [1779033703, 3144134277, 1013904242, 2773480762, 1359893119, 2600822924, 528734635, 1541459225]) hb (Nat.le_refl _); rw [← hw] at hh2 hb2; clear hw hh hb))
  (try simp only [Exit.inBlock, Exit.then])
  refine bodyPost_ret (results_cell_row rfl _ _ w.heap.size 140 (encs (Value.int .u32) [1779033703, 3144134277, 1013904242, 2773480762, 1359893119, 2600822924, 528734635, 1541459225]).toArray (0, 0) _ rfl hh2 Tryz.underlying140 rfl (by kernel_rfl)) rfl ?_
  exact ⟨rfl, hb2⟩

/-! ### bits_RotateLeft32: function 115 -/
def bits_RotateLeft32.f (a0 : Int) (a1 : Int) : Option (Int) := if 0 ≤ (Go.bits .and .u64 (IntKind.u64.wrap (a1)) 31) then (if 0 ≤ (IntKind.u64.wrap (32 - (Go.bits .and .u64 (IntKind.u64.wrap (a1)) 31))) then (some (Go.bits .or .u32 (shl .u32 a0 (Go.bits .and .u64 (IntKind.u64.wrap (a1)) 31)) (shr .u32 a0 (IntKind.u64.wrap (32 - (Go.bits .and .u64 (IntKind.u64.wrap (a1)) 31)))))) else (none)) else (none)
set_option maxHeartbeats 64000000 in
set_option maxRecDepth 100000 in
theorem bits_RotateLeft32.calls (a0 : Int) (a1 : Int) (r : Int) (w : World) (h : bits_RotateLeft32.f a0 a1 = some r) :
 Calls Tryz.prog 115 #[.int .u32 a0, .int .i64 a1] w fun e w' => e = .returned (.int .u32 r) ∧ Drawn0 w w' := by
 have H : (if 0 ≤ (Go.bits .and .u64 (IntKind.u64.wrap (a1)) 31) then (if 0 ≤ (IntKind.u64.wrap (32 - (Go.bits .and .u64 (IntKind.u64.wrap (a1)) 31))) then (some (Go.bits .or .u32 (shl .u32 a0 (Go.bits .and .u64 (IntKind.u64.wrap (a1)) 31)) (shr .u32 a0 (IntKind.u64.wrap (32 - (Go.bits .and .u64 (IntKind.u64.wrap (a1)) 31)))))) else (none)) else (none)) = some r := h
 clear h
 generalize hji3 : (Go.bits .and .u64 (IntKind.u64.wrap (a1)) 31) = ji3 at H
 revert H; refine ne_ fun c4 c4b0 c4b1 H => ?_
 clear c4
 generalize hji5 : (shl .u32 a0 (ji3)) = ji5 at H
 have hji5_ : (IntKind.u32.wrap (a0 * 2 ^ min (ji3).toNat 32)) = ji5 := hji5
 have hji5z : (ji3) ≤ 32 → (IntKind.u32.wrap (a0 * 2 ^ (ji3).toNat)) = ji5 := shl_small hji5
 generalize hji6 : (IntKind.u64.wrap (32 - (ji3))) = ji6 at H
 revert H; refine ne_ fun c7 c7b0 c7b1 H => ?_
 clear c7
 generalize hji8 : (shr .u32 a0 (ji6)) = ji8 at H
 have hji8_ : (a0 / 2 ^ min (ji6).toNat 32) = ji8 := hji8
 have hji8z : (ji6) ≤ 32 → (a0 / 2 ^ (ji6).toNat) = ji8 := shr_small hji8
 obtain rfl := Option.some.inj H
 go_enter Tryz.func115, Tryz.ntmps115
 go_wp2
 go_ret
 exact ⟨by first | rfl | (simp; done) | (simp only [← hji3, ← hji5, ← hji6, ← hji8] <;> (first | rfl | simp)) | (simp [*]; done) | exact congrArg Value.bool (nonempty_l _) | (refine congrArg (Value.int _) ?_; first | omega | (unfold wrap64; omega)), by repeat (first | exact Drawn0.refl _ | apply Drawn0.step)⟩

/-! ### sha_state_block: function 105 -/
mutual
def sha_state_block.l0 : Nat → List Int → ByteArray → List Int → Int → Option (List Int)
 | 0, _, _, _, _ => none
 | k + 1, x0, x1, x4, x22 => if x22 < 16 then (if 0 ≤ (wrap64 (4 * x22)) then (if (wrap64 (4 * x22)) < (x1.size : Int) then (if 0 ≤ (wrap64 ((wrap64 (4 * x22)) + 1)) then (if (wrap64 ((wrap64 (4 * x22)) + 1)) < (x1.size : Int) then (if 0 ≤ (wrap64 ((wrap64 (4 * x22)) + 2)) then (if (wrap64 ((wrap64 (4 * x22)) + 2)) < (x1.size : Int) then (if 0 ≤ (wrap64 ((wrap64 (4 * x22)) + 3)) then (if (wrap64 ((wrap64 (4 * x22)) + 3)) < (x1.size : Int) then (if x4.length = 64 then (if 0 ≤ x22 then (if x22 < (x4.length : Int) then (sha_state_block.l0 k x0 x1 (x4.set (x22 : Int).toNat (Go.bits .or .u32 (Go.bits .or .u32 (Go.bits .or .u32 ((((bt x1 (wrap64 (4 * x22))) % 4294967296) * 16777216) % 4294967296) ((((bt x1 (wrap64 ((wrap64 (4 * x22)) + 1))) % 4294967296) * 65536) % 4294967296)) ((((bt x1 (wrap64 ((wrap64 (4 * x22)) + 2))) % 4294967296) * 256) % 4294967296)) ((bt x1 (wrap64 ((wrap64 (4 * x22)) + 3))) % 4294967296))) (wrap64 (x22 + 1))) else (none)) else (none)) else (none)) else (none)) else (none)) else (none)) else (none)) else (none)) else (none)) else (none)) else (none)) else (sha_state_block.l1 k x0 x4 16)
def sha_state_block.l1 : Nat → List Int → List Int → Int → Option (List Int)
 | 0, _, _, _ => none
 | k + 1, x0, x4, x6 => if x6 < 64 then (if x4.length = 64 then (if 0 ≤ (wrap64 (x6 - 15)) then (if (wrap64 (x6 - 15)) < (x4.length : Int) then (if 0 ≤ (wrap64 (x6 - 2)) then (if (wrap64 (x6 - 2)) < (x4.length : Int) then (if 0 ≤ (wrap64 (x6 - 16)) then (if (wrap64 (x6 - 16)) < (x4.length : Int) then (if 0 ≤ (wrap64 (x6 - 7)) then (if (wrap64 (x6 - 7)) < (x4.length : Int) then ((bits_RotateLeft32.f (rd x4 (wrap64 (x6 - 15))) (-7)).bind fun t117 => ((bits_RotateLeft32.f (rd x4 (wrap64 (x6 - 15))) (-18)).bind fun t118 => ((bits_RotateLeft32.f (rd x4 (wrap64 (x6 - 2))) (-17)).bind fun t119 => ((bits_RotateLeft32.f (rd x4 (wrap64 (x6 - 2))) (-19)).bind fun t120 => (if 0 ≤ x6 then (if x6 < (x4.length : Int) then (sha_state_block.l1 k x0 (x4.set (x6 : Int).toNat (((((rd x4 (wrap64 (x6 - 16))) + (rd x4 (wrap64 (x6 - 7)))) + (Go.bits .xor .u32 (Go.bits .xor .u32 t117 t118) ((rd x4 (wrap64 (x6 - 15))) / 8))) + (Go.bits .xor .u32 (Go.bits .xor .u32 t119 t120) ((rd x4 (wrap64 (x6 - 2))) / 1024))) % 4294967296)) (wrap64 (x6 + 1))) else (none)) else (none)))))) else (none)) else (none)) else (none)) else (none)) else (none)) else (none)) else (none)) else (none)) else (none)) else (if x0.length = 8 then (if 0 < (x0.length : Int) then (if 1 < (x0.length : Int) then (if 2 < (x0.length : Int) then (if 3 < (x0.length : Int) then (if 4 < (x0.length : Int) then (if 5 < (x0.length : Int) then (if 6 < (x0.length : Int) then (if 7 < (x0.length : Int) then (sha_state_block.l2 k x0 x4 (rd x0 0) (rd x0 1) (rd x0 2) (rd x0 3) (rd x0 4) (rd x0 5) (rd x0 6) (rd x0 7) 0) else (none)) else (none)) else (none)) else (none)) else (none)) else (none)) else (none)) else (none)) else (none))
def sha_state_block.l2 : Nat → List Int → List Int → Int → Int → Int → Int → Int → Int → Int → Int → Int → Option (List Int)
 | 0, _, _, _, _, _, _, _, _, _, _, _ => none
 | k + 1, x0, x4, x9, x10, x11, x12, x13, x14, x15, x16, x130 => if x130 < 64 then ((bits_RotateLeft32.f x13 (-6)).bind fun t130 => ((bits_RotateLeft32.f x13 (-11)).bind fun t131 => ((bits_RotateLeft32.f x13 (-25)).bind fun t132 => (if keysL.length = 64 then (if 0 ≤ x130 then (if x130 < (keysL.length : Int) then (if x4.length = 64 then (if x130 < (x4.length : Int) then ((bits_RotateLeft32.f x9 (-2)).bind fun t135 => ((bits_RotateLeft32.f x9 (-13)).bind fun t136 => ((bits_RotateLeft32.f x9 (-22)).bind fun t137 => (sha_state_block.l2 k x0 x4 ((((((x16 + (Go.bits .xor .u32 (Go.bits .xor .u32 t130 t131) t132)) + (Go.bits .xor .u32 (Go.bits .and .u32 x13 x14) (Go.bits .and .u32 (Go.bits .xor .u32 4294967295 x13) x15))) + (rd keysL x130)) + (rd x4 x130)) + ((Go.bits .xor .u32 (Go.bits .xor .u32 t135 t136) t137) + (Go.bits .xor .u32 (Go.bits .xor .u32 (Go.bits .and .u32 x9 x10) (Go.bits .and .u32 x9 x11)) (Go.bits .and .u32 x10 x11)))) % 4294967296) x9 x10 x11 ((x12 + ((((x16 + (Go.bits .xor .u32 (Go.bits .xor .u32 t130 t131) t132)) + (Go.bits .xor .u32 (Go.bits .and .u32 x13 x14) (Go.bits .and .u32 (Go.bits .xor .u32 4294967295 x13) x15))) + (rd keysL x130)) + (rd x4 x130))) % 4294967296) x13 x14 x15 (wrap64 (x130 + 1)))))) else (none)) else (none)) else (none)) else (none)) else (none))))) else (sha_state_block.l3 k x0 x9 x10 x11 x12 x13 x14 x15 x16 0)
def sha_state_block.l3 : Nat → List Int → Int → Int → Int → Int → Int → Int → Int → Int → Int → Option (List Int)
 | 0, _, _, _, _, _, _, _, _, _, _ => none
 | k + 1, x0, x9, x10, x11, x12, x13, x14, x15, x16, x202 => if x202 < 8 then (if 0 ≤ x202 then (if x0.length = 8 then (if 0 < (x0.length : Int) then (if x202 < (x0.length : Int) then (sha_state_block.l3 k (x0.set (x202 : Int).toNat (((rd x0 x202) + (rd [x9, x10, x11, x12, x13, x14, x15, x16] x202)) % 4294967296)) x9 x10 x11 x12 x13 x14 x15 x16 (wrap64 (x202 + 1))) else (none)) else (none)) else (none)) else (none)) else (some x0)
end
def sha_state_block.f (k : Nat) (l0 : List Int) (a1 : ByteArray) : Option (List Int) := sha_state_block.l0 k l0 a1 (List.replicate 64 0) 0
theorem sha_state_block.mono_l : ∀ k, (∀ y0 y1 y2 y3, LeO (sha_state_block.l0 k y0 y1 y2 y3) (sha_state_block.l0 (k + 1) y0 y1 y2 y3)) ∧ (∀ y0 y1 y2, LeO (sha_state_block.l1 k y0 y1 y2) (sha_state_block.l1 (k + 1) y0 y1 y2)) ∧ (∀ y0 y1 y2 y3 y4 y5 y6 y7 y8 y9 y10, LeO (sha_state_block.l2 k y0 y1 y2 y3 y4 y5 y6 y7 y8 y9 y10) (sha_state_block.l2 (k + 1) y0 y1 y2 y3 y4 y5 y6 y7 y8 y9 y10)) ∧ (∀ y0 y1 y2 y3 y4 y5 y6 y7 y8 y9, LeO (sha_state_block.l3 k y0 y1 y2 y3 y4 y5 y6 y7 y8 y9) (sha_state_block.l3 (k + 1) y0 y1 y2 y3 y4 y5 y6 y7 y8 y9))
 | 0 => ⟨fun _ _ _ _ r h => by simp [sha_state_block.l0] at h, fun _ _ _ r h => by simp [sha_state_block.l1] at h, fun _ _ _ _ _ _ _ _ _ _ _ r h => by simp [sha_state_block.l2] at h, fun _ _ _ _ _ _ _ _ _ _ r h => by simp [sha_state_block.l3] at h⟩
 | k + 1 => by
  obtain ⟨ih0, ih1, ih2, ih3⟩ := sha_state_block.mono_l k
  refine ⟨?_, ?_, ?_, ?_⟩ <;> intros <;> (first | unfold sha_state_block.l0 | unfold sha_state_block.l1 | unfold sha_state_block.l2 | unfold sha_state_block.l3) <;> repeat' first
  | (with_reducible exact ih0 _ _ _ _)
  | (with_reducible exact ih1 _ _ _)
  | (with_reducible exact ih2 _ _ _ _ _ _ _ _ _ _ _)
  | (with_reducible exact ih3 _ _ _ _ _ _ _ _ _ _)
  | (with_reducible exact LeO.refl _)
  | (with_reducible exact LeO.none _)
  | (with_reducible refine LeO.ite ?_ ?_)
  | (with_reducible refine LeO.bind ?_ (fun _ => ?_))
  | exact ih0 _ _ _ _
  | exact ih1 _ _ _
  | exact ih2 _ _ _ _ _ _ _ _ _ _ _
  | exact ih3 _ _ _ _ _ _ _ _ _ _
  | exact LeO.none _
  | refine LeO.ite ?_ ?_
  | refine LeO.bind ?_ (fun _ => ?_)
theorem sha_state_block.mono : ∀ a0 a1 k, LeO (sha_state_block.f k a0 a1) (sha_state_block.f (k + 1) a0 a1) := by
 intro a0 a1 k
 obtain ⟨ih0, ih1, ih2, ih3⟩ := sha_state_block.mono_l k
 unfold sha_state_block.f
 repeat' first
  | (with_reducible exact ih0 _ _ _ _)
  | (with_reducible exact ih1 _ _ _)
  | (with_reducible exact ih2 _ _ _ _ _ _ _ _ _ _ _)
  | (with_reducible exact ih3 _ _ _ _ _ _ _ _ _ _)
  | (with_reducible exact LeO.refl _)
  | (with_reducible exact LeO.none _)
  | (with_reducible refine LeO.ite ?_ ?_)
  | (with_reducible refine LeO.bind ?_ (fun _ => ?_))
  | exact ih0 _ _ _ _
  | exact ih1 _ _ _
  | exact ih2 _ _ _ _ _ _ _ _ _ _ _
  | exact ih3 _ _ _ _ _ _ _ _ _ _
  | exact LeO.none _
  | refine LeO.ite ?_ ?_
  | refine LeO.bind ?_ (fun _ => ?_)
def sha_state_block.T4 : Bool × List (List Nat × List Nat) := (true, [([], []), ([], []), ([], []), ([2], [2]), ([1, 3], [1, 3]), ([4], [4]), ([5], [5]), ([], []), ([], []), ([8], [8]), ([9], [9]), ([7, 10], [7, 10]), ([11], [11]), ([12], [12]), ([6, 13], [6, 13]), ([], []), ([], []), ([16], [16]), ([17], [17]), ([15, 18], [15, 18]), ([19], [19]), ([20], [20]), ([14, 21], [14, 21]), ([], []), ([], []), ([24], [24]), ([25], [25]), ([23, 26], [23, 26]), ([27], [27]), ([22, 28], [22, 28]), ([0, 0, 1, 2, 3, 4, 5, 6, 7, 8, 9, 10, 11, 12, 13, 14, 15, 16, 17, 18, 19, 20, 21, 22, 23, 24, 25, 26, 27, 28, 29], [0]), ([30, 29, 0, 1, 2, 3, 4, 5, 6, 7, 8, 9, 10, 11, 12, 13, 14, 15, 16, 17, 18, 19, 20, 21, 22, 23, 24, 25, 26, 27, 28, 29], [29, 30])])
def sha_state_block.B4 : List Nat := [0, 0, 0, 4, 14, 30, 62, 0, 0, 256, 768, 1920, 3968, 8064, 16382, 0, 0, 65536, 196608, 491520, 1015808, 2064384, 4194302, 0, 0, 16777216, 50331648, 125829120, 260046848, 536870910, 1073741823, 2147483647]
theorem sha_state_block.tab4 : rtab .any (opsOf Tryz.f105 4) = sha_state_block.T4 := by kernel_rfl
theorem sha_state_block.bits4 : waitsOk sha_state_block.T4.2 sha_state_block.B4 = true := by kernel_rfl
def sha_state_block.T9 : Bool × List (List Nat × List Nat) := (true, [([], []), ([0], [0]), ([1], [1]), ([2], [2]), ([], []), ([4], [4]), ([5], [5]), ([6], [6]), ([3, 0, 1, 2, 3], [3]), ([7, 8, 0, 1, 2, 3, 4, 5, 6, 7, 8], [7])])
def sha_state_block.B9 : List Nat := [0, 1, 3, 7, 0, 16, 48, 112, 15, 511]
theorem sha_state_block.tab9 : rtab .any (opsOf Tryz.f105 9) = sha_state_block.T9 := by kernel_rfl
theorem sha_state_block.bits9 : waitsOk sha_state_block.T9.2 sha_state_block.B9 = true := by kernel_rfl
def sha_state_block.T10 : Bool × List (List Nat × List Nat) := (true, [([], []), ([], []), ([1], [1]), ([2], [2]), ([3], [3]), ([], []), ([5], [5]), ([6], [6]), ([7], [7]), ([4, 8], [4, 8]), ([], []), ([10], [10]), ([], []), ([12, 11], [12]), ([11, 13], [11, 13]), ([], []), ([15], [15]), ([14, 16], [14, 16]), ([9, 17], [9, 17]), ([], []), ([19, 13], [19]), ([], []), ([21, 20], [21]), ([20, 22], [20, 22]), ([], []), ([24], [24]), ([23, 25], [23, 25]), ([18, 26], [18, 26]), ([0, 0, 1, 2, 3, 4, 5, 6, 7, 8, 9, 10, 11, 12, 13, 14, 15, 16, 17, 18, 19, 20, 21, 22, 23, 24, 25, 26, 27], [0]), ([28, 27, 22, 0, 1, 2, 3, 4, 5, 6, 7, 8, 9, 10, 11, 12, 13, 14, 15, 16, 17, 18, 19, 20, 21, 22, 23, 24, 25, 26, 27], [27, 28])])
def sha_state_block.B10 : List Nat := [0, 0, 2, 6, 14, 0, 32, 96, 224, 510, 0, 1024, 0, 7168, 15360, 0, 32768, 130048, 262142, 0, 539648, 0, 3685376, 7879680, 0, 16777216, 66599936, 134217726, 268435455, 536870911]
theorem sha_state_block.tab10 : rtab .any (opsOf Tryz.f105 10) = sha_state_block.T10 := by kernel_rfl
theorem sha_state_block.bits10 : waitsOk sha_state_block.T10.2 sha_state_block.B10 = true := by kernel_rfl
def sha_state_block.T11 : Bool × List (List Nat × List Nat) := (true, [([], []), ([0], [0]), ([1], [1]), ([2], [2]), ([], []), ([4], [4]), ([5], [5]), ([6], [6]), ([], []), ([8], [8]), ([9], [9]), ([10], [10]), ([], []), ([12], [12]), ([13], [13]), ([14], [14]), ([], []), ([16], [16]), ([17], [17]), ([18], [18]), ([], []), ([20], [20]), ([21], [21]), ([22], [22]), ([], []), ([24], [24]), ([25], [25]), ([26], [26]), ([], []), ([28], [28]), ([29], [29]), ([30], [30]), ([3, 0, 1, 2, 3], [3]), ([7, 32, 0, 1, 2, 3, 4, 5, 6, 7, 32], [7]), ([11, 33, 0, 1, 2, 3, 4, 5, 6, 7, 8, 9, 10, 11, 32, 33], [11]), ([15, 34, 0, 1, 2, 3, 4, 5, 6, 7, 8, 9, 10, 11, 12, 13, 14, 15, 32, 33, 34], [15]), ([19, 35, 0, 1, 2, 3, 4, 5, 6, 7, 8, 9, 10, 11, 12, 13, 14, 15, 16, 17, 18, 19, 32, 33, 34, 35], [19]), ([23, 36, 0, 1, 2, 3, 4, 5, 6, 7, 8, 9, 10, 11, 12, 13, 14, 15, 16, 17, 18, 19, 20, 21, 22, 23, 32, 33, 34, 35, 36], [23]), ([27, 37, 0, 1, 2, 3, 4, 5, 6, 7, 8, 9, 10, 11, 12, 13, 14, 15, 16, 17, 18, 19, 20, 21, 22, 23, 24, 25, 26, 27, 32, 33, 34, 35, 36, 37], [27]), ([31, 38, 0, 1, 2, 3, 4, 5, 6, 7, 8, 9, 10, 11, 12, 13, 14, 15, 16, 17, 18, 19, 20, 21, 22, 23, 24, 25, 26, 27, 28, 29, 30, 31, 32, 33, 34, 35, 36, 37, 38], [31])])
def sha_state_block.B11 : List Nat := [0, 1, 3, 7, 0, 16, 48, 112, 0, 256, 768, 1792, 0, 4096, 12288, 28672, 0, 65536, 196608, 458752, 0, 1048576, 3145728, 7340032, 0, 16777216, 50331648, 117440512, 0, 268435456, 805306368, 1879048192, 15, 4294967551, 12884905983, 30064836607, 64425558015, 133160763391, 270851375103, 549755813887]
theorem sha_state_block.tab11 : rtab .any (opsOf Tryz.f105 11) = sha_state_block.T11 := by kernel_rfl
theorem sha_state_block.bits11 : waitsOk sha_state_block.T11.2 sha_state_block.B11 = true := by kernel_rfl
def sha_state_block.T15 : Bool × List (List Nat × List Nat) := (true, [([], []), ([], []), ([1], [1]), ([], []), ([3, 2], [3]), ([2, 4], [2, 4]), ([], []), ([6, 4], [6]), ([5, 7], [5, 7]), ([0, 8], [0, 8]), ([], []), ([], []), ([10, 11], [10, 11]), ([], []), ([13], [13]), ([], []), ([14, 15], [14, 15]), ([12, 16], [12, 16]), ([9, 17], [9, 17]), ([], []), ([19], [19]), ([20], [20]), ([18, 21], [18, 21]), ([], []), ([23], [23]), ([24], [24]), ([22, 25], [22, 25]), ([26, 7, 0, 1, 2, 3, 4, 5, 6, 7, 8, 9, 10, 11, 12, 13, 14, 15, 16, 17, 18, 19, 20, 21, 22, 23, 24, 25, 26], [26])])
def sha_state_block.B15 : List Nat := [0, 0, 2, 0, 14, 30, 0, 94, 254, 511, 0, 0, 3072, 0, 8192, 0, 57344, 130048, 262143, 0, 524288, 1572864, 4194303, 0, 8388608, 25165824, 67108863, 134217727]
theorem sha_state_block.tab15 : rtab .any (opsOf Tryz.f105 15) = sha_state_block.T15 := by kernel_rfl
theorem sha_state_block.bits15 : waitsOk sha_state_block.T15.2 sha_state_block.B15 = true := by kernel_rfl
def sha_state_block.T22 : Bool × List (List Nat × List Nat) := (true, [([], []), ([], []), ([0], [0]), ([2, 1], [1, 2]), ([3], [3]), ([], []), ([4, 5], [4, 5]), ([0], [0]), ([7, 1, 0, 1, 2, 3, 4, 5, 6], [1, 7]), ([8, 6, 0, 1, 2, 3, 4, 5, 6], [6, 8])])
def sha_state_block.B22 : List Nat := [0, 0, 1, 7, 15, 0, 63, 1, 255, 511]
theorem sha_state_block.tab22 : rtab .any (opsOf Tryz.f105 22) = sha_state_block.T22 := by kernel_rfl
theorem sha_state_block.bits22 : waitsOk sha_state_block.T22.2 sha_state_block.B22 = true := by kernel_rfl
set_option maxHeartbeats 64000000 in
set_option maxRecDepth 100000 in
theorem sha_state_block.calls (k : Nat) (P0_ : Nat → Prop) (u9000_ : Value) (l0 : List Int) (a1 : ByteArray) (r : List Int) (w0 w : World) (hB : Below w0.heap.size w0 w) (ho0 : Kd.R (Kd.int .u32) 140 w w0.heap.size P0_ u9000_ l0) (hrG : ∀ W_, Kept w W_ (fun k_ => P0_ k_) → Kd.C (Kd.int .u32) W_ (some ⟨0, 0, none⟩) keysL.length keysL) (h : sha_state_block.f k l0 a1 = some r) :
 Calls Tryz.prog 105 #[.pointer (ptrOf u9000_), .string a1] w fun e w' => e = .returned (.tuple #[]) ∧ Kd.R (Kd.int .u32) 140 w' w0.heap.size (fun k_ => (P0_ k_ ∨ w.heap.size ≤ k_)) u9000_ r ∧ Below w0.heap.size w0 w' ∧ Kept w w' (fun k_ => P0_ k_) := by
 have hu132 := Tryz.underlying132
 have hu130 := Tryz.underlying130
 have HO0 := Aside0.mk (show Kd.R (Kd.int .u32) 140 w w0.heap.size (fun k_ => (P0_ k_ ∨ w.heap.size ≤ k_)) u9000_ l0 from Kd.R_mono ho0 (fun k_ hk => (.inl hk)))
 have HRG := Aside0.mk hrG
 clear hrG
 have HK := Aside0.mk (Kept.refl w (fun k_ => P0_ k_))
 have HW0 := Aside0.mk hB.size
 have HB := Aside0.mk hB
 clear hB
 have H : (sha_state_block.l0 k l0 a1 (List.replicate 64 0) 0) = some r := h
 clear h
 generalize e_ : (List.replicate 64 0 : List Int) = y109 at H
 have Ny109 := Aside0.mk e_.symm
 clear e_
 have H' := Aside0.mk H
 clear H
 go_enter Tryz.func105, Tryz.ntmps105
 go_wp2_with (first | ((with_reducible refine gate_dst (N := 4) rfl ?_); refine R_arr (Value.int .u32) (fun _ => rfl) _ 132 ?hg (N := 4) ?hd (List.replicate 64 0) ?hr (Below.refl _ _) (Nat.le_refl _) (by decide) ?_; (case hd => rfl); (case hg => rfl); (case hr => exact gr_); intro v110 w3 ho4 hb hg_ hnew_; clear hg_ hnew_; (first | rw [← Ny109.out] at ho4 | (simp only [Int.reduceToNat] at ho4; rw [← Ny109.out] at ho4)); have HO111 := Aside0.mk (Kd.R_lower (Kd.R_newM (M := fun k_ => (P0_ k_ ∨ w.heap.size ≤ k_)) ho4 (by first | exact HK.out.1 | exact (show Kept w _ (fun k_ => P0_ k_) from by repeat (first | (with_reducible first | exact HK.out | apply Kept.alloc | apply Kept.drewN | apply Kept.drew) | exact HK.out)).1) (fun k_ h_ => .inr h_)) (below_size bl_)); replace HB := Aside0.mk (below_step bl_ hb); replace HK := Aside0.mk (Kept.below (S := (fun k_ => P0_ k_)) (by repeat (first | (with_reducible first | exact HK.out | apply Kept.alloc | apply Kept.drewN | apply Kept.drew) | exact HK.out)) hb); replace HO0 := Aside0.mk (Kd.R_below (mv_ HO0.out) hb); clear hb ho4))
 go_loopg [22] k (fun kq v22 w' => ∃ (x4_1 : List Int) (x22_1 : Int), v22 = .int .i64 x22_1 ∧ Aside0 (sha_state_block.l0 kq l0 a1 x4_1 x22_1 = some r) ∧ Aside0 (kq ≤ k) ∧ Aside0 (Kd.R (Kd.int .u32) 140 w' w0.heap.size (fun k_ => (P0_ k_ ∨ w.heap.size ≤ k_)) u9000_ l0) ∧ Aside0 (Kd.R (Kd.int .u32) 132 w' w0.heap.size (fun k_ => (P0_ k_ ∨ w.heap.size ≤ k_)) v110 x4_1) ∧ Aside0 (Kept w w' (fun k_ => P0_ k_)) ∧ Aside0 (Below w0.heap.size w0 w'))
 case atStart => exact ⟨(y109), (0), vq_, H', ⟨Nat.le_refl _⟩, ⟨mv_ HO0.out⟩, ⟨by refine mv_ ?_; exact Kd.R_mono HO111.out (fun _ hk => hk.1)⟩, ⟨by repeat (first | (with_reducible first | exact HK.out | apply Kept.alloc | apply Kept.drewN | apply Kept.drew) | exact HK.out)⟩, ⟨bl_⟩⟩
 case round =>
  clear H'
  (try clear c1); (try clear p2)
  obtain ⟨x4_1, x22_1, rfl, HA, HK1, HO_0, HO_4, HK, HB⟩ := hrel
  cases gk with
  | zero => exact absurd HA.out (by simp [sha_state_block.l0])
  | succ k1 =>
   have H := HA.out
   clear HA
   simp only [sha_state_block.l0] at H
   by_cases c5 : x22_1 < 16
   ·rw [if_pos c5] at H
    have c5b0 : decide (x22_1 < 16) = true := decide_eq_true c5
    clear c5
    generalize hji6 : (wrap64 (4 * x22_1)) = ji6 at H
    have hji6w := (i64_w _).trans hji6
    revert H; refine nd_ fun c7 c7b0 => nd_ fun c8 c8b0 H => ?_
    clear c7 c8
    generalize hji10 : (wrap64 ((ji6) + 1)) = ji10 at H
    have hji10w := (i64_w _).trans hji10
    revert H; refine nd_ fun c11 c11b0 => nd_ fun c12 c12b0 H => ?_
    clear c11 c12
    generalize hji14 : (wrap64 ((ji6) + 2)) = ji14 at H
    have hji14w := (i64_w _).trans hji14
    revert H; refine nd_ fun c15 c15b0 => nd_ fun c16 c16b0 H => ?_
    clear c15 c16
    generalize hji18 : (wrap64 ((ji6) + 3)) = ji18 at H
    have hji18w := (i64_w _).trans hji18
    revert H; refine nd_ fun c19 c19b0 => nd_ fun c20 c20b0 => ne_ fun c22 c22b0 c22b1 => nd_ fun c23 c23b0 => nd_ fun c24 c24b0 H => ?_
    clear c19 c20 c22 c23 c24
    generalize e_ : (x4_1.set (x22_1 : Int).toNat (Go.bits .or .u32 (Go.bits .or .u32 (Go.bits .or .u32 ((((bt a1 (ji6)) % 4294967296) * 16777216) % 4294967296) ((((bt a1 (ji10)) % 4294967296) * 65536) % 4294967296)) ((((bt a1 (ji14)) % 4294967296) * 256) % 4294967296)) ((bt a1 (ji18)) % 4294967296)) : List Int) = y112 at H
    have Ny112 := Aside0.mk e_.symm
    clear e_
    have H' := Aside0.mk H
    clear H
    try go_wp2
    replace HB := Aside0.mk (below_drew1 HB.out)
    replace HK := Aside0.mk (Kept.drew HK.out)
    replace HO_4 := Aside0.mk (Kd.R_drew HO_4.out)
    replace HO_0 := Aside0.mk (Kd.R_drew HO_0.out)
    have p9 := eq_true (ad_ : 0 ≤ ((ji6) : Int))
    have q9 := eq_true (ad_ : (ji6) < (a1.size : Int))
    have hx9 := bt_at a1 (ji6)
    have p13 := eq_true (ad_ : 0 ≤ ((ji10) : Int))
    have q13 := eq_true (ad_ : (ji10) < (a1.size : Int))
    have hx13 := bt_at a1 (ji10)
    have p17 := eq_true (ad_ : 0 ≤ ((ji14) : Int))
    have q17 := eq_true (ad_ : (ji14) < (a1.size : Int))
    have hx17 := bt_at a1 (ji14)
    have p21 := eq_true (ad_ : 0 ≤ ((ji18) : Int))
    have q21 := eq_true (ad_ : (ji18) < (a1.size : Int))
    have hx21 := bt_at a1 (ji18)
    have qa25 : ((x22_1 : Int) < (64 : Int)) = True := qa_ x4_1 64
    have p25 : 0 ≤ (x22_1 : Int) := ad_
    have q25 : (x22_1 : Int) < ((x4_1.length : Int) : Int) := ad_
    obtain ⟨go25, co25, eo25, gb25, gl25, cl25, HG25⟩ := Kd.R_form HO_4.out (by omega)
    (first | cases eo25 | (injection eo25 with ea_ en_ ec_; (first | subst ea_ | (injection ea_ with ea_; subst ea_)); subst ec_; clear en_))
    have GB25 := Aside0.mk gb25
    have GG25 := Aside0.mk HG25
    clear gb25 gl25 HG25
    have HMgo25 := Aside0.mk (show (P0_ go25 ∨ w.heap.size ≤ go25) from (HO_4.out.1 _ rfl))
    obtain ⟨hx25_0, hf25_0⟩ := Kd.R_celln 0 HO_4.out (x22_1 : Int) p25 q25
    replace p25 := eq_true p25
    replace q25 := eq_true q25
    have HP27 := Kd.R_putn HO_4.out (x22_1 : Int) (Go.bits .or .u32 (Go.bits .or .u32 (Go.bits .or .u32 ((((bt a1 (ji6)) % 4294967296) * 16777216) % 4294967296) ((((bt a1 (ji10)) % 4294967296) * 65536) % 4294967296)) ((((bt a1 (ji14)) % 4294967296) * 256) % 4294967296)) ((bt a1 (ji18)) % 4294967296))
    rw [← Ny112.out] at HP27
    have HQ27 := Aside0.mk HP27
    clear HP27
    refine start_ (n := 32) (S := fun w' => True) (ds := [31]) #[false, false, false, false, false, false, false, false, false, false, false, false, false, false, false, false, false, false, false, false, false, false, false, false, false, false, false, false, false, false, false, false] (by kernel_rfl) rfl rfl trivial (fun hHeld => ?_); refine with_tabW sha_state_block.tab4 sha_state_block.bits4 (fun HT_ HW_ => ?_)
    generalize wr.drew = w26 at HO_0 HO_4 HK HB GG25 HQ27 hf25_0 hx25_0 hHeld ⊢
    refine runs_ [(0, some 25), (1, some 26), (2, some 27), (3, some 28), (7, some 32), (8, some 33), (9, some 34), (10, some 35), (15, some 40), (16, some 41), (17, some 42), (18, some 43), (23, some 48), (24, some 49), (25, some 50), (26, some 51)] ?_
    iterate 16 (refine pL_ ?_)
    refine runsE_ ?_
    refine take_ (i := 4) (N := some 29) (v := ?_) (a' := ?_) #[true, true, true, true, true, false, false, true, true, true, true, false, false, false, false, true, true, true, true, false, false, false, false, true, true, true, true, false, false, false, false, false] rfl rfl (take_ofW HT_.out HW_.out (by kernel_rfl)) (fun _ _ _ h => h) (Or.inl ⟨by rfl, ?_⟩) hHeld ?_ ?_
    rotate_left
    ·intro w' _
     go_simp
     with_reducible rfl
    rotate_left
    ·simp only [pr_]
     rfl
    refine runs_ [(5, some 30), (6, some 31)] ?_
    iterate 2 (refine pL_ ?_)
    refine runsE_ ?_
    refine take_ (i := 11) (N := some 36) (v := ?_) (a' := ?_) #[true, true, true, true, true, true, true, true, true, true, true, true, false, false, false, true, true, true, true, false, false, false, false, true, true, true, true, false, false, false, false, false] rfl rfl (take_ofW HT_.out HW_.out (by kernel_rfl)) (fun _ _ _ h => h) (Or.inl ⟨by rfl, ?_⟩) hHeld ?_ ?_
    rotate_left
    ·intro w' _
     go_simp
     with_reducible rfl
    rotate_left
    ·simp only [pr_]
     rfl
    refine runs_ [(12, some 37), (13, some 38), (14, some 39)] ?_
    iterate 3 (refine pL_ ?_)
    refine runsE_ ?_
    refine take_ (i := 19) (N := some 44) (v := ?_) (a' := ?_) #[true, true, true, true, true, true, true, true, true, true, true, true, true, true, true, true, true, true, true, true, false, false, false, true, true, true, true, false, false, false, false, false] rfl rfl (take_ofW HT_.out HW_.out (by kernel_rfl)) (fun _ _ _ h => h) (Or.inl ⟨by rfl, ?_⟩) hHeld ?_ ?_
    rotate_left
    ·intro w' _
     go_simp
     with_reducible rfl
    rotate_left
    ·simp only [pr_]
     rfl
    refine runs_ [(20, some 45), (21, some 46), (22, some 47)] ?_
    iterate 3 (refine pL_ ?_)
    refine runsE_ ?_
    refine take_ (i := 27) (N := some 52) (v := ?_) (a' := ?_) #[true, true, true, true, true, true, true, true, true, true, true, true, true, true, true, true, true, true, true, true, true, true, true, true, true, true, true, true, false, false, false, false] rfl rfl (take_ofW HT_.out HW_.out (by kernel_rfl)) (fun _ _ _ h => h) (Or.inl ⟨by rfl, ?_⟩) hHeld ?_ ?_
    rotate_left
    ·intro w' _
     go_simp
     with_reducible rfl
    rotate_left
    ·simp only [pr_]
     rfl
    refine runs_ [(28, some 53), (29, some 54), (30, some 55)] ?_
    iterate 3 (refine pL_ ?_)
    refine runsE_ ?_
    refine last_ (i := 31) (N := none) #[true, true, true, true, true, true, true, true, true, true, true, true, true, true, true, true, true, true, true, true, true, true, true, true, true, true, true, true, true, true, true, true] rfl rfl (one_of HT_.out (by kernel_rfl)) (by decide) (fun K hK => ?_)
    refine skip_set ⟨go25, (x22_1 : Int).toNat, none⟩ (.int .u32 (Go.bits .or .u32 (Go.bits .or .u32 (Go.bits .or .u32 ((((bt a1 (ji6)) % 4294967296) * 16777216) % 4294967296) ((((bt a1 (ji10)) % 4294967296) * 65536) % 4294967296)) ((((bt a1 (ji14)) % 4294967296) * 256) % 4294967296)) ((bt a1 (ji18)) % 4294967296))) (by rfl) rfl ?_ ?_
    ·first | (go_simp; done) | (go_simp; rfl) | (go_simp; (try simp only [IntKind.wrap_u32, IntKind.wrap_u8]); refine congrArg (fun v_ => World.setCell _ _ (Value.int _ v_)) ?_; omega)
    refine hK.out _ _ ?_
    clear hK K
    refine done_ (done_of HT_.out (by kernel_rfl)) ?_
    try go_wp2
    go_roundg k1
    case measure => have := HK1.out; omega
    case rel => exact ⟨(y112), (wrap64 (x22_1 + 1)), vq_, H', ⟨by have := HK1.out; omega⟩, ⟨by refine mv_ ?_; exact Kd.R_mono (Kd.R_far (p := ⟨go25, (x22_1 : Int).toNat, none⟩) (Kd.R_types HO_0.out GG25.out (by decide)) (fun _ hk => hk.2) (.int .u32 (Go.bits .or .u32 (Go.bits .or .u32 (Go.bits .or .u32 ((((bt a1 (ji6)) % 4294967296) * 16777216) % 4294967296) ((((bt a1 (ji10)) % 4294967296) * 65536) % 4294967296)) ((((bt a1 (ji14)) % 4294967296) * 256) % 4294967296)) ((bt a1 (ji18)) % 4294967296)))) (fun _ hk => hk.1)⟩, ⟨mv_ HQ27.out⟩, ⟨by repeat (first | (with_reducible first | exact HK.out | apply Kept.alloc | apply Kept.drewN | apply Kept.drew | refine Kept.setCell ?_ HMgo25.out _) | exact HK.out)⟩, ⟨bs_ GB25.out⟩⟩
   rw [if_neg c5] at H
   have c5b0 : decide (x22_1 < 16) = false := decide_eq_false c5
   clear c5
   have H' := Aside0.mk H
   clear H
   go_wp2
   go_loopg [6] k1 (fun kq v6 w' => ∃ (x4_2 : List Int) (x6_2 : Int), v6 = .int .i64 x6_2 ∧ Aside0 (sha_state_block.l1 kq l0 x4_2 x6_2 = some r) ∧ Aside0 (kq ≤ k1) ∧ Aside0 (Kd.R (Kd.int .u32) 140 w' w0.heap.size (fun k_ => (P0_ k_ ∨ w.heap.size ≤ k_)) u9000_ l0) ∧ Aside0 (Kd.R (Kd.int .u32) 132 w' w0.heap.size (fun k_ => (P0_ k_ ∨ w.heap.size ≤ k_)) v110 x4_2) ∧ Aside0 (Kept w w' (fun k_ => P0_ k_)) ∧ Aside0 (Below w0.heap.size w0 w'))
   case atStart => exact ⟨(x4_1), (16), vq_, H', ⟨Nat.le_refl _⟩, ⟨mv_ HO_0.out⟩, ⟨mv_ HO_4.out⟩, ⟨by repeat (first | (with_reducible first | exact HK.out | apply Kept.alloc | apply Kept.drewN | apply Kept.drew) | exact HK.out)⟩, ⟨bl_⟩⟩
   case round =>
    clear H'
    (try clear c1); (try clear p1); (try clear q1); (try clear hx1); (try clear c2); (try clear p2); (try clear q2); (try clear hx2); (try clear hf2); (try clear c5); (try clear c5b0); (try clear p6); (try clear c7); (try clear c7b0); (try clear c8); (try clear c8b0); (try clear p9); (try clear q9); (try clear hx9); (try clear c10); (try clear c11); (try clear c11b0); (try clear c12); (try clear c12b0); (try clear p13); (try clear q13); (try clear hx13); (try clear c15); (try clear c15b0); (try clear c16); (try clear c16b0); (try clear p17); (try clear q17); (try clear hx17); (try clear c19); (try clear c19b0); (try clear c20); (try clear c20b0); (try clear p21); (try clear q21); (try clear hx21); (try clear c22); (try clear c22b0); (try clear c22b1); (try clear c23); (try clear c23b0); (try clear c24); (try clear c24b0); (try clear p25); (try clear q25); (try clear hx25); (try clear hf25); (try clear hx25_0); (try clear p13); (try clear p17); (try clear p2); (try clear p21); (try clear p25); (try clear p9); (try clear q13); (try clear q17); (try clear q21); (try clear q25); (try clear q9)
    obtain ⟨x4_2, x6_2, rfl, HA, HK2, HO_0, HO_4, HK, HB⟩ := hrel
    cases gk with
    | zero => exact absurd HA.out (by simp [sha_state_block.l1])
    | succ k2 =>
     have H := HA.out
     clear HA
     simp only [sha_state_block.l1] at H
     by_cases c28 : x6_2 < 64
     ·rw [if_pos c28] at H
      have c28b0 : decide (x6_2 < 64) = true := decide_eq_true c28
      clear c28
      revert H; refine ne_ fun c29 c29b0 c29b1 H => ?_
      clear c29
      generalize hji30 : (wrap64 (x6_2 - 15)) = ji30 at H
      have hji30w := (i64_w _).trans hji30
      revert H; refine nd_ fun c31 c31b0 => nd_ fun c32 c32b0 H => ?_
      clear c31 c32
      generalize hji33 : (wrap64 (x6_2 - 2)) = ji33 at H
      have hji33w := (i64_w _).trans hji33
      revert H; refine nd_ fun c34 c34b0 => nd_ fun c35 c35b0 H => ?_
      clear c34 c35
      generalize hji36 : (wrap64 (x6_2 - 16)) = ji36 at H
      have hji36w := (i64_w _).trans hji36
      revert H; refine nd_ fun c37 c37b0 => nd_ fun c38 c38b0 H => ?_
      clear c37 c38
      generalize hji39 : (wrap64 (x6_2 - 7)) = ji39 at H
      have hji39w := (i64_w _).trans hji39
      revert H; refine nd_ fun c40 c40b0 => nd_ fun c41 c41b0 => oa_ fun t117 A42 => oa_ fun t118 A43 => oa_ fun t119 A44 => oa_ fun t120 A45 => nd_ fun c46 c46b0 => nd_ fun c47 c47b0 H => ?_
      clear c40 c41 c46 c47
      generalize e_ : (x4_2.set (x6_2 : Int).toNat (((((rd x4_2 (ji36)) + (rd x4_2 (ji39))) + (Go.bits .xor .u32 (Go.bits .xor .u32 t117 t118) ((rd x4_2 (ji30)) / 8))) + (Go.bits .xor .u32 (Go.bits .xor .u32 t119 t120) ((rd x4_2 (ji33)) / 1024))) % 4294967296) : List Int) = y121 at H
      have Ny121 := Aside0.mk e_.symm
      clear e_
      have H' := Aside0.mk H
      clear H
      try go_wp2
      replace HB := Aside0.mk (below_drew1 HB.out)
      replace HK := Aside0.mk (Kept.drew HK.out)
      replace HO_4 := Aside0.mk (Kd.R_drew HO_4.out)
      replace HO_0 := Aside0.mk (Kd.R_drew HO_0.out)
      obtain ⟨Ao50, co50, eo50⟩ := Kd.R_slice HO_4.out
      (first | subst eo50 | (injection eo50 with f1_ f2_ f3_; have f4_ := f1_.symm; have f5_ := f3_.symm; clear f1_ f2_ f3_; subst f4_; subst f5_))
      have qa113 : (((ji30) : Int) < (64 : Int)) = True := qa_ x4_2 64
      have p113 : 0 ≤ ((ji30) : Int) := ad_
      have q113 : (ji30) < (x4_2.length : Int) := ad_
      obtain ⟨ad113, e113, hx113_0⟩ := Kd.at_int (Kd.R_reads' HO_4.out).2.2 (ji30) p113 q113
      cases e113
      replace p113 := eq_true p113
      replace q113 := eq_true q113
      have qa114 : (((ji33) : Int) < (64 : Int)) = True := qa_ x4_2 64
      have p114 : 0 ≤ ((ji33) : Int) := ad_
      have q114 : (ji33) < (x4_2.length : Int) := ad_
      obtain ⟨ad114, e114, hx114_0⟩ := Kd.at_int (Kd.R_reads' HO_4.out).2.2 (ji33) p114 q114
      obtain rfl : ad113 = ad114 := (by injection e114)
      replace p114 := eq_true p114
      replace q114 := eq_true q114
      refine start_ (n := 10) (S := fun w' => w'.cell? (ad113.add ((ji30)).toNat) = some (.int .u32 (rd x4_2 (ji30))) ∧ w'.cell? (ad113.add ((ji33)).toNat) = some (.int .u32 (rd x4_2 (ji33)))) (ds := []) #[false, false, false, false, false, false, false, false, false, false] (by kernel_rfl) rfl rfl ⟨hx113_0, hx114_0⟩ (fun hHeld => ?_); refine with_tabW sha_state_block.tab9 sha_state_block.bits9 (fun HT_ HW_ => ?_)
      generalize wr.drew = w49 at HO_0 HO_4 HK HB hx113_0 hx114_0 hHeld ⊢
      refine runs_ [(0, some 61), (1, some 62), (2, some 63), (4, some 65), (5, some 66), (6, some 67)] ?_
      iterate 6 (refine pL_ ?_)
      refine runsE_ ?_
      refine take_ (i := 3) (N := some 64) (v := ?_) (a' := ?_) #[true, true, true, true, true, true, true, false, false, false] rfl rfl (take_ofW HT_.out HW_.out (by kernel_rfl)) (fun _ _ _ h => h) (Or.inl ⟨by rfl, ?_⟩) hHeld ?_ ?_
      rotate_left
      ·rintro w' ⟨s0, s1⟩
       go_simp
       with_reducible rfl
      rotate_left
      ·simp only [pr_]
       rfl
      refine pure_ (i := 8) (N := some 7) (v := ?_) (a' := ?_) #[true, true, true, true, true, true, true, false, true, false] rfl rfl (any_of HT_.out (by kernel_rfl)) (fun _ _ _ h => h) (Or.inl ⟨by rfl, ?_⟩) ?_ ?_
      rotate_left
      ·intro w'
       go_simp
       with_reducible rfl
      rotate_left
      ·simp only [pr_]
       rfl
      refine take_ (i := 7) (N := some 68) (v := ?_) (a' := ?_) #[true, true, true, true, true, true, true, true, true, false] rfl rfl (take_ofW HT_.out HW_.out (by kernel_rfl)) (fun _ _ _ h => h) (Or.inl ⟨by rfl, ?_⟩) hHeld ?_ ?_
      rotate_left
      ·rintro w' ⟨s0, s1⟩
       go_simp
       with_reducible rfl
      rotate_left
      ·simp only [pr_]
       rfl
      refine pure_ (i := 9) (N := some 8) (v := ?_) (a' := ?_) #[true, true, true, true, true, true, true, true, true, true] rfl rfl (any_of HT_.out (by kernel_rfl)) (fun _ _ _ h => h) (Or.inl ⟨by rfl, ?_⟩) ?_ ?_
      rotate_left
      ·intro w'
       go_simp
       with_reducible rfl
      rotate_left
      ·simp only [pr_]
       rfl
      refine done_ (done_of HT_.out (by kernel_rfl)) ?_
      try go_wp2
      replace HB := Aside0.mk (below_drew1 HB.out)
      replace HK := Aside0.mk (Kept.drew HK.out)
      replace HO_4 := Aside0.mk (Kd.R_drew HO_4.out)
      replace HO_0 := Aside0.mk (Kd.R_drew HO_0.out)
      have qa115 : (((ji36) : Int) < (64 : Int)) = True := qa_ x4_2 64
      have p115 : 0 ≤ ((ji36) : Int) := ad_
      have q115 : (ji36) < (x4_2.length : Int) := ad_
      obtain ⟨ad115, e115, hx115_0⟩ := Kd.at_int (Kd.R_reads' HO_4.out).2.2 (ji36) p115 q115
      obtain rfl : ad113 = ad115 := (by injection e115)
      replace p115 := eq_true p115
      replace q115 := eq_true q115
      have qa116 : (((ji39) : Int) < (64 : Int)) = True := qa_ x4_2 64
      have p116 : 0 ≤ ((ji39) : Int) := ad_
      have q116 : (ji39) < (x4_2.length : Int) := ad_
      obtain ⟨ad116, e116, hx116_0⟩ := Kd.at_int (Kd.R_reads' HO_4.out).2.2 (ji39) p116 q116
      obtain rfl : ad113 = ad116 := (by injection e116)
      replace p116 := eq_true p116
      replace q116 := eq_true q116
      refine start_ (n := 30) (S := fun w' => w'.cell? (ad113.add ((ji36)).toNat) = some (.int .u32 (rd x4_2 (ji36))) ∧ w'.cell? (ad113.add ((ji39)).toNat) = some (.int .u32 (rd x4_2 (ji39)))) (ds := [29]) #[false, false, false, false, false, false, false, false, false, false, false, false, false, false, false, false, false, false, false, false, false, false, false, false, false, false, false, false, false, false] (by kernel_rfl) rfl rfl ⟨hx115_0, hx116_0⟩ (fun hHeld => ?_); refine with_tabW sha_state_block.tab10 sha_state_block.bits10 (fun HT_ HW_ => ?_)
      generalize w49.drew = w51 at HO_0 HO_4 HK HB hx115_0 hx116_0 hHeld ⊢
      refine runs_ [(0, some 69), (1, some 70), (2, some 71), (3, some 72), (5, some 74), (6, some 75), (7, some 76), (10, some 79), (12, some 81), (15, some 84), (16, some 85), (19, some 88), (21, some 90), (24, some 93), (25, some 94)] ?_
      iterate 15 (refine pL_ ?_)
      refine runsE_ ?_
      refine runs_ [(4, some 73), (8, some 77)] ?_
      iterate 2 (refine takeL_ (v := ?_) (a' := ?_) rfl rfl (take_ofW HT_.out HW_.out (by kernel_rfl)) (Or.inl ⟨by rfl, ?_⟩) hHeld ?_ ?_ (fun _ _ _ h => h); rotate_left; (rintro w' ⟨s0, s1⟩; go_simp; with_reducible rfl); rotate_left; (simp only [pr_]; rfl))
      refine runsE_ ?_
      refine pure_ (i := 9) (N := some 78) (v := ?_) (a' := ?_) #[true, true, true, true, true, true, true, true, true, true, true, false, true, false, false, true, true, false, false, true, false, true, false, false, true, true, false, false, false, false] rfl rfl (any_of HT_.out (by kernel_rfl)) (fun _ _ _ h => h) (Or.inl ⟨by rfl, ?_⟩) ?_ ?_
      rotate_left
      ·intro w'
       go_simp
       with_reducible rfl
      rotate_left
      ·simp only [pr_]
       rfl
      refine one_ (i := 11) (N := some 80) #[true, true, true, true, true, true, true, true, true, true, true, true, true, false, false, true, true, false, false, true, false, true, false, false, true, true, false, false, false, false] rfl rfl (one_of HT_.out (by kernel_rfl)) (by decide) (fun K hK => ?_)
      refine goes_ Tryz.func115 (by kernel_rfl) rfl #[.int .u32 (rd x4_2 (ji30)), .int .i64 (-7)] (by rfl) rfl rfl (by (try simp only [List.map_toArray, List.map_cons, List.map_nil]); first | done | (simp only [hji30]; rfl) | rfl | (simp only [List.length_drop, List.length_take]; rfl)) ?_
      with_reducible refine (bits_RotateLeft32.calls (rd x4_2 (ji30)) (-7) t117 _ A42.out).mono ?_
      rintro e w' ⟨rfl, ⟨nd, rfl⟩⟩
      refine ⟨_, rfl, ?_⟩
      refine hK.out _ _ ⟨hHeld.1, hHeld.2⟩ (fun hHeld => ?_)
      clear hK K
      refine norm_ (a' := ?_) ?_ ?_
      rotate_left
      ·show Act.put _ (some 80) _ = _
       simp only [pr_]
       rfl
      refine one_ (i := 13) (N := some 82) #[true, true, true, true, true, true, true, true, true, true, true, true, true, true, false, true, true, false, false, true, false, true, false, false, true, true, false, false, false, false] rfl rfl (one_of HT_.out (by kernel_rfl)) (by decide) (fun K hK => ?_)
      refine goes_ Tryz.func115 (by kernel_rfl) rfl #[.int .u32 (rd x4_2 (ji30)), .int .i64 (-18)] (by rfl) rfl rfl (by (try simp only [List.map_toArray, List.map_cons, List.map_nil]); first | done | (simp only [hji30]; rfl) | rfl | (simp only [List.length_drop, List.length_take]; rfl)) ?_
      with_reducible refine (bits_RotateLeft32.calls (rd x4_2 (ji30)) (-18) t118 _ A43.out).mono ?_
      rintro e w' ⟨rfl, ⟨nd, rfl⟩⟩
      refine ⟨_, rfl, ?_⟩
      refine hK.out _ _ ⟨hHeld.1, hHeld.2⟩ (fun hHeld => ?_)
      clear hK K
      refine norm_ (a' := ?_) ?_ ?_
      rotate_left
      ·show Act.put _ (some 82) _ = _
       simp only [pr_]
       rfl
      refine runs_ [(14, some 83), (17, some 86), (18, some 87)] ?_
      iterate 3 (refine pL_ ?_)
      refine runsE_ ?_
      refine one_ (i := 20) (N := some 89) #[true, true, true, true, true, true, true, true, true, true, true, true, true, true, true, true, true, true, true, true, true, true, false, false, true, true, false, false, false, false] rfl rfl (one_of HT_.out (by kernel_rfl)) (by decide) (fun K hK => ?_)
      refine goes_ Tryz.func115 (by kernel_rfl) rfl #[.int .u32 (rd x4_2 (ji33)), .int .i64 (-17)] (by rfl) rfl rfl (by (try simp only [List.map_toArray, List.map_cons, List.map_nil]); first | done | (simp only [hji33]; rfl) | rfl | (simp only [List.length_drop, List.length_take]; rfl)) ?_
      with_reducible refine (bits_RotateLeft32.calls (rd x4_2 (ji33)) (-17) t119 _ A44.out).mono ?_
      rintro e w' ⟨rfl, ⟨nd, rfl⟩⟩
      refine ⟨_, rfl, ?_⟩
      refine hK.out _ _ ⟨hHeld.1, hHeld.2⟩ (fun hHeld => ?_)
      clear hK K
      refine norm_ (a' := ?_) ?_ ?_
      rotate_left
      ·show Act.put _ (some 89) _ = _
       simp only [pr_]
       rfl
      refine one_ (i := 22) (N := some 91) #[true, true, true, true, true, true, true, true, true, true, true, true, true, true, true, true, true, true, true, true, true, true, true, false, true, true, false, false, false, false] rfl rfl (one_of HT_.out (by kernel_rfl)) (by decide) (fun K hK => ?_)
      refine goes_ Tryz.func115 (by kernel_rfl) rfl #[.int .u32 (rd x4_2 (ji33)), .int .i64 (-19)] (by rfl) rfl rfl (by (try simp only [List.map_toArray, List.map_cons, List.map_nil]); first | done | (simp only [hji33]; rfl) | rfl | (simp only [List.length_drop, List.length_take]; rfl)) ?_
      with_reducible refine (bits_RotateLeft32.calls (rd x4_2 (ji33)) (-19) t120 _ A45.out).mono ?_
      rintro e w' ⟨rfl, ⟨nd, rfl⟩⟩
      refine ⟨_, rfl, ?_⟩
      have qa48 : ((x6_2 : Int) < (64 : Int)) = True := qa_ x4_2 64
      have p48 : 0 ≤ (x6_2 : Int) := ad_
      have q48 : (x6_2 : Int) < ((x4_2.length : Int) : Int) := ad_
      obtain ⟨go48, co48, eo48, gb48, gl48, cl48, HG48⟩ := Kd.R_form HO_4.out (by omega)
      (first | cases eo48 | (injection eo48 with ea_ en_ ec_; (first | subst ea_ | (injection ea_ with ea_; subst ea_)); subst ec_; clear en_))
      have GB48 := Aside0.mk gb48
      have GG48 := Aside0.mk HG48
      clear gb48 gl48 HG48
      have HMgo48 := Aside0.mk (show (P0_ go48 ∨ w.heap.size ≤ go48) from (HO_4.out.1 _ rfl))
      (first | simp only [add_plain] at hx113_0 | skip)
      (first | simp only [add_plain] at hx114_0 | skip)
      (first | simp only [add_plain] at hx115_0 | skip)
      (first | simp only [add_plain] at hx116_0 | skip)
      obtain ⟨hx48_0, hf48_0⟩ := Kd.R_celln 0 HO_4.out (x6_2 : Int) p48 q48
      replace p48 := eq_true p48
      replace q48 := eq_true q48
      have HP52 := Kd.R_putn HO_4.out (x6_2 : Int) (((((rd x4_2 (ji36)) + (rd x4_2 (ji39))) + (Go.bits .xor .u32 (Go.bits .xor .u32 t117 t118) ((rd x4_2 (ji30)) / 8))) + (Go.bits .xor .u32 (Go.bits .xor .u32 t119 t120) ((rd x4_2 (ji33)) / 1024))) % 4294967296)
      rw [← Ny121.out] at HP52
      have HQ52 := Aside0.mk HP52
      clear HP52
      refine hK.out _ _ ⟨hHeld.1, hHeld.2⟩ (fun hHeld => ?_)
      clear hK K
      refine norm_ (a' := ?_) ?_ ?_
      rotate_left
      ·show Act.put _ (some 91) _ = _
       simp only [pr_]
       rfl
      refine runs_ [(23, some 92), (26, some 95), (27, some 96), (28, some 97)] ?_
      iterate 4 (refine pL_ ?_)
      refine runsE_ ?_
      refine last_ (i := 29) (N := none) #[true, true, true, true, true, true, true, true, true, true, true, true, true, true, true, true, true, true, true, true, true, true, true, true, true, true, true, true, true, true] rfl rfl (one_of HT_.out (by kernel_rfl)) (by decide) (fun K hK => ?_)
      refine skip_set ⟨go48, (x6_2 : Int).toNat, none⟩ (.int .u32 (((((rd x4_2 (ji36)) + (rd x4_2 (ji39))) + (Go.bits .xor .u32 (Go.bits .xor .u32 t117 t118) ((rd x4_2 (ji30)) / 8))) + (Go.bits .xor .u32 (Go.bits .xor .u32 t119 t120) ((rd x4_2 (ji33)) / 1024))) % 4294967296)) (by rfl) rfl ?_ ?_
      ·first | (go_simp; done) | (go_simp; rfl) | (go_simp; (try simp only [IntKind.wrap_u32, IntKind.wrap_u8]); refine congrArg (fun v_ => World.setCell _ _ (Value.int _ v_)) ?_; omega)
      refine hK.out _ _ ?_
      clear hK K
      refine done_ (done_of HT_.out (by kernel_rfl)) ?_
      try go_wp2
      go_roundg k2
      case measure => have := HK1.out; have := HK2.out; omega
      case rel => exact ⟨(y121), (wrap64 (x6_2 + 1)), vq_, H', ⟨by have := HK1.out; have := HK2.out; omega⟩, ⟨by refine mv_ ?_; exact Kd.R_mono (Kd.R_far (p := ⟨go48, (x6_2 : Int).toNat, none⟩) (Kd.R_types HO_0.out GG48.out (by decide)) (fun _ hk => hk.2) (.int .u32 (((((rd x4_2 (ji36)) + (rd x4_2 (ji39))) + (Go.bits .xor .u32 (Go.bits .xor .u32 t117 t118) ((rd x4_2 (ji30)) / 8))) + (Go.bits .xor .u32 (Go.bits .xor .u32 t119 t120) ((rd x4_2 (ji33)) / 1024))) % 4294967296))) (fun _ hk => hk.1)⟩, ⟨mv_ HQ52.out⟩, ⟨by repeat (first | (with_reducible first | exact HK.out | apply Kept.alloc | apply Kept.drewN | apply Kept.drew | refine Kept.setCell ?_ HMgo48.out _) | exact HK.out)⟩, ⟨bs_ GB48.out⟩⟩
     rw [if_neg c28] at H
     have c28b0 : decide (x6_2 < 64) = false := decide_eq_false c28
     clear c28
     revert H; refine ne_ fun c53 c53b0 c53b1 => nd_ fun c54 c54b0 => nd_ fun c57 c57b0 => nd_ fun c59 c59b0 => nd_ fun c61 c61b0 => nd_ fun c63 c63b0 => nd_ fun c65 c65b0 => nd_ fun c67 c67b0 => nd_ fun c69 c69b0 H => ?_
     have c54b1 : decide (0 < l0.length) = true := decide_eq_true (by omega)
     have c57b1 : decide (1 < l0.length) = true := decide_eq_true (by omega)
     have c59b1 : decide (2 < l0.length) = true := decide_eq_true (by omega)
     have c61b1 : decide (3 < l0.length) = true := decide_eq_true (by omega)
     have c63b1 : decide (4 < l0.length) = true := decide_eq_true (by omega)
     have c65b1 : decide (5 < l0.length) = true := decide_eq_true (by omega)
     have c67b1 : decide (6 < l0.length) = true := decide_eq_true (by omega)
     have c69b1 : decide (7 < l0.length) = true := decide_eq_true (by omega)
     clear c53 c54 c57 c59 c61 c63 c65 c67 c69
     have H' := Aside0.mk H
     clear H
     try go_wp2
     replace HB := Aside0.mk (below_drew1 HB.out)
     replace HK := Aside0.mk (Kept.drew HK.out)
     replace HO_4 := Aside0.mk (Kd.R_drew HO_4.out)
     replace HO_0 := Aside0.mk (Kd.R_drew HO_0.out)
     have qa55 : ((0 : Int) < (8 : Int)) = True := qa_ l0 8
     have p55 : 0 ≤ (0 : Int) := (by omega)
     have q55 : (0 : Int) < ((l0.length : Int) : Int) := ad_
     have qi55 : (0 < l0.length) = True := eq_true (by omega)
     obtain ⟨go55, co55, eo55, gb55, gl55, cl55, HG55⟩ := Kd.R_form HO_0.out (by omega)
     (first | cases eo55 | (injection eo55 with ea_ en_ ec_; (first | subst ea_ | (injection ea_ with ea_; subst ea_)); subst ec_; clear en_))
     have GB55 := Aside0.mk gb55
     have GG55 := Aside0.mk HG55
     clear gb55 gl55 HG55
     have HMgo55 := Aside0.mk (show (P0_ go55 ∨ w.heap.size ≤ go55) from (HO_0.out.1 _ rfl))
     obtain ⟨hx55_0, hf55_0⟩ := Kd.R_celln 0 HO_0.out (0 : Int) p55 q55
     (try rw [show ((0 : Int)).toNat = 0 from rfl] at hx55_0)
     (try simp only [Nat.reduceMul, Nat.zero_mul, Nat.zero_add, Nat.reduceAdd] at hx55_0)
     (try rw [show ((0 : Int)).toNat = 0 from rfl] at hf55_0)
     (try simp only [Nat.reduceMul, Nat.zero_mul, Nat.zero_add, Nat.reduceAdd] at hf55_0)
     replace p55 := eq_true p55
     replace q55 := eq_true q55
     have qa122 : ((0 : Int) < (8 : Int)) = True := qa_ l0 8
     have p122 : 0 ≤ (0 : Int) := (by omega)
     have q122 : 0 < (l0.length : Int) := ad_
     obtain ⟨ad122, e122, hx122_0⟩ := Kd.at_int (Kd.R_reads' HO_0.out).2.2 0 p122 q122
     obtain rfl : (⟨go55, 0, none⟩ : Addr) = ad122 := (by injection e122)
     (first | simp only [add_plain] at hx122_0 | simp only [add_at] at hx122_0 | simp only [Addr.add, Nat.zero_add] at hx122_0 | skip)
     have qi122 : (0 < l0.length) = True := eq_true (by omega)
     (try rw [show ((0 : Int)).toNat = 0 from rfl] at hx122_0)
     (try rw [Addr.add_zero'] at hx122_0)
     replace p122 := eq_true p122
     replace q122 := eq_true q122
     have qa56 : ((0 : Int) < (8 : Int)) = True := qa_ l0 8
     have p56 : 0 ≤ (0 : Int) := (by omega)
     have q56 : (0 : Int) < ((l0.length : Int) : Int) := ad_
     have qi56 : (0 < l0.length) = True := eq_true (by omega)
     obtain ⟨hx56_0, hf56_0⟩ := Kd.R_celln 0 HO_0.out (0 : Int) p56 q56
     (try rw [show ((0 : Int)).toNat = 0 from rfl] at hx56_0)
     (try simp only [Nat.reduceMul, Nat.zero_mul, Nat.zero_add, Nat.reduceAdd] at hx56_0)
     (try rw [show ((0 : Int)).toNat = 0 from rfl] at hf56_0)
     (try simp only [Nat.reduceMul, Nat.zero_mul, Nat.zero_add, Nat.reduceAdd] at hf56_0)
     replace p56 := eq_true p56
     replace q56 := eq_true q56
     have qa123 : ((1 : Int) < (8 : Int)) = True := qa_ l0 8
     have p123 : 0 ≤ (1 : Int) := (by omega)
     have q123 : 1 < (l0.length : Int) := ad_
     obtain ⟨ad123, e123, hx123_0⟩ := Kd.at_int (Kd.R_reads' HO_0.out).2.2 1 p123 q123
     obtain rfl : (⟨go55, 0, none⟩ : Addr) = ad123 := (by injection e123)
     (first | simp only [add_plain] at hx123_0 | simp only [add_at] at hx123_0 | simp only [Addr.add, Nat.zero_add] at hx123_0 | skip)
     have qi123 : (1 < l0.length) = True := eq_true (by omega)
     (try rw [show ((1 : Int)).toNat = 1 from rfl] at hx123_0)
     replace p123 := eq_true p123
     replace q123 := eq_true q123
     have qa58 : ((0 : Int) < (8 : Int)) = True := qa_ l0 8
     have p58 : 0 ≤ (0 : Int) := (by omega)
     have q58 : (0 : Int) < ((l0.length : Int) : Int) := ad_
     have qi58 : (0 < l0.length) = True := eq_true (by omega)
     obtain ⟨hx58_0, hf58_0⟩ := Kd.R_celln 0 HO_0.out (0 : Int) p58 q58
     (try rw [show ((0 : Int)).toNat = 0 from rfl] at hx58_0)
     (try simp only [Nat.reduceMul, Nat.zero_mul, Nat.zero_add, Nat.reduceAdd] at hx58_0)
     (try rw [show ((0 : Int)).toNat = 0 from rfl] at hf58_0)
     (try simp only [Nat.reduceMul, Nat.zero_mul, Nat.zero_add, Nat.reduceAdd] at hf58_0)
     replace p58 := eq_true p58
     replace q58 := eq_true q58
     have qa124 : ((2 : Int) < (8 : Int)) = True := qa_ l0 8
     have p124 : 0 ≤ (2 : Int) := (by omega)
     have q124 : 2 < (l0.length : Int) := ad_
     obtain ⟨ad124, e124, hx124_0⟩ := Kd.at_int (Kd.R_reads' HO_0.out).2.2 2 p124 q124
     obtain rfl : (⟨go55, 0, none⟩ : Addr) = ad124 := (by injection e124)
     (first | simp only [add_plain] at hx124_0 | simp only [add_at] at hx124_0 | simp only [Addr.add, Nat.zero_add] at hx124_0 | skip)
     have qi124 : (2 < l0.length) = True := eq_true (by omega)
     (try rw [show ((2 : Int)).toNat = 2 from rfl] at hx124_0)
     replace p124 := eq_true p124
     replace q124 := eq_true q124
     have qa60 : ((0 : Int) < (8 : Int)) = True := qa_ l0 8
     have p60 : 0 ≤ (0 : Int) := (by omega)
     have q60 : (0 : Int) < ((l0.length : Int) : Int) := ad_
     have qi60 : (0 < l0.length) = True := eq_true (by omega)
     obtain ⟨hx60_0, hf60_0⟩ := Kd.R_celln 0 HO_0.out (0 : Int) p60 q60
     (try rw [show ((0 : Int)).toNat = 0 from rfl] at hx60_0)
     (try simp only [Nat.reduceMul, Nat.zero_mul, Nat.zero_add, Nat.reduceAdd] at hx60_0)
     (try rw [show ((0 : Int)).toNat = 0 from rfl] at hf60_0)
     (try simp only [Nat.reduceMul, Nat.zero_mul, Nat.zero_add, Nat.reduceAdd] at hf60_0)
     replace p60 := eq_true p60
     replace q60 := eq_true q60
     have qa125 : ((3 : Int) < (8 : Int)) = True := qa_ l0 8
     have p125 : 0 ≤ (3 : Int) := (by omega)
     have q125 : 3 < (l0.length : Int) := ad_
     obtain ⟨ad125, e125, hx125_0⟩ := Kd.at_int (Kd.R_reads' HO_0.out).2.2 3 p125 q125
     obtain rfl : (⟨go55, 0, none⟩ : Addr) = ad125 := (by injection e125)
     (first | simp only [add_plain] at hx125_0 | simp only [add_at] at hx125_0 | simp only [Addr.add, Nat.zero_add] at hx125_0 | skip)
     have qi125 : (3 < l0.length) = True := eq_true (by omega)
     (try rw [show ((3 : Int)).toNat = 3 from rfl] at hx125_0)
     replace p125 := eq_true p125
     replace q125 := eq_true q125
     have qa62 : ((0 : Int) < (8 : Int)) = True := qa_ l0 8
     have p62 : 0 ≤ (0 : Int) := (by omega)
     have q62 : (0 : Int) < ((l0.length : Int) : Int) := ad_
     have qi62 : (0 < l0.length) = True := eq_true (by omega)
     obtain ⟨hx62_0, hf62_0⟩ := Kd.R_celln 0 HO_0.out (0 : Int) p62 q62
     (try rw [show ((0 : Int)).toNat = 0 from rfl] at hx62_0)
     (try simp only [Nat.reduceMul, Nat.zero_mul, Nat.zero_add, Nat.reduceAdd] at hx62_0)
     (try rw [show ((0 : Int)).toNat = 0 from rfl] at hf62_0)
     (try simp only [Nat.reduceMul, Nat.zero_mul, Nat.zero_add, Nat.reduceAdd] at hf62_0)
     replace p62 := eq_true p62
     replace q62 := eq_true q62
     have qa126 : ((4 : Int) < (8 : Int)) = True := qa_ l0 8
     have p126 : 0 ≤ (4 : Int) := (by omega)
     have q126 : 4 < (l0.length : Int) := ad_
     obtain ⟨ad126, e126, hx126_0⟩ := Kd.at_int (Kd.R_reads' HO_0.out).2.2 4 p126 q126
     obtain rfl : (⟨go55, 0, none⟩ : Addr) = ad126 := (by injection e126)
     (first | simp only [add_plain] at hx126_0 | simp only [add_at] at hx126_0 | simp only [Addr.add, Nat.zero_add] at hx126_0 | skip)
     have qi126 : (4 < l0.length) = True := eq_true (by omega)
     (try rw [show ((4 : Int)).toNat = 4 from rfl] at hx126_0)
     replace p126 := eq_true p126
     replace q126 := eq_true q126
     have qa64 : ((0 : Int) < (8 : Int)) = True := qa_ l0 8
     have p64 : 0 ≤ (0 : Int) := (by omega)
     have q64 : (0 : Int) < ((l0.length : Int) : Int) := ad_
     have qi64 : (0 < l0.length) = True := eq_true (by omega)
     obtain ⟨hx64_0, hf64_0⟩ := Kd.R_celln 0 HO_0.out (0 : Int) p64 q64
     (try rw [show ((0 : Int)).toNat = 0 from rfl] at hx64_0)
     (try simp only [Nat.reduceMul, Nat.zero_mul, Nat.zero_add, Nat.reduceAdd] at hx64_0)
     (try rw [show ((0 : Int)).toNat = 0 from rfl] at hf64_0)
     (try simp only [Nat.reduceMul, Nat.zero_mul, Nat.zero_add, Nat.reduceAdd] at hf64_0)
     replace p64 := eq_true p64
     replace q64 := eq_true q64
     have qa127 : ((5 : Int) < (8 : Int)) = True := qa_ l0 8
     have p127 : 0 ≤ (5 : Int) := (by omega)
     have q127 : 5 < (l0.length : Int) := ad_
     obtain ⟨ad127, e127, hx127_0⟩ := Kd.at_int (Kd.R_reads' HO_0.out).2.2 5 p127 q127
     obtain rfl : (⟨go55, 0, none⟩ : Addr) = ad127 := (by injection e127)
     (first | simp only [add_plain] at hx127_0 | simp only [add_at] at hx127_0 | simp only [Addr.add, Nat.zero_add] at hx127_0 | skip)
     have qi127 : (5 < l0.length) = True := eq_true (by omega)
     (try rw [show ((5 : Int)).toNat = 5 from rfl] at hx127_0)
     replace p127 := eq_true p127
     replace q127 := eq_true q127
     have qa66 : ((0 : Int) < (8 : Int)) = True := qa_ l0 8
     have p66 : 0 ≤ (0 : Int) := (by omega)
     have q66 : (0 : Int) < ((l0.length : Int) : Int) := ad_
     have qi66 : (0 < l0.length) = True := eq_true (by omega)
     obtain ⟨hx66_0, hf66_0⟩ := Kd.R_celln 0 HO_0.out (0 : Int) p66 q66
     (try rw [show ((0 : Int)).toNat = 0 from rfl] at hx66_0)
     (try simp only [Nat.reduceMul, Nat.zero_mul, Nat.zero_add, Nat.reduceAdd] at hx66_0)
     (try rw [show ((0 : Int)).toNat = 0 from rfl] at hf66_0)
     (try simp only [Nat.reduceMul, Nat.zero_mul, Nat.zero_add, Nat.reduceAdd] at hf66_0)
     replace p66 := eq_true p66
     replace q66 := eq_true q66
     have qa128 : ((6 : Int) < (8 : Int)) = True := qa_ l0 8
     have p128 : 0 ≤ (6 : Int) := (by omega)
     have q128 : 6 < (l0.length : Int) := ad_
     obtain ⟨ad128, e128, hx128_0⟩ := Kd.at_int (Kd.R_reads' HO_0.out).2.2 6 p128 q128
     obtain rfl : (⟨go55, 0, none⟩ : Addr) = ad128 := (by injection e128)
     (first | simp only [add_plain] at hx128_0 | simp only [add_at] at hx128_0 | simp only [Addr.add, Nat.zero_add] at hx128_0 | skip)
     have qi128 : (6 < l0.length) = True := eq_true (by omega)
     (try rw [show ((6 : Int)).toNat = 6 from rfl] at hx128_0)
     replace p128 := eq_true p128
     replace q128 := eq_true q128
     have qa68 : ((0 : Int) < (8 : Int)) = True := qa_ l0 8
     have p68 : 0 ≤ (0 : Int) := (by omega)
     have q68 : (0 : Int) < ((l0.length : Int) : Int) := ad_
     have qi68 : (0 < l0.length) = True := eq_true (by omega)
     obtain ⟨hx68_0, hf68_0⟩ := Kd.R_celln 0 HO_0.out (0 : Int) p68 q68
     (try rw [show ((0 : Int)).toNat = 0 from rfl] at hx68_0)
     (try simp only [Nat.reduceMul, Nat.zero_mul, Nat.zero_add, Nat.reduceAdd] at hx68_0)
     (try rw [show ((0 : Int)).toNat = 0 from rfl] at hf68_0)
     (try simp only [Nat.reduceMul, Nat.zero_mul, Nat.zero_add, Nat.reduceAdd] at hf68_0)
     replace p68 := eq_true p68
     replace q68 := eq_true q68
     have qa129 : ((7 : Int) < (8 : Int)) = True := qa_ l0 8
     have p129 : 0 ≤ (7 : Int) := (by omega)
     have q129 : 7 < (l0.length : Int) := ad_
     obtain ⟨ad129, e129, hx129_0⟩ := Kd.at_int (Kd.R_reads' HO_0.out).2.2 7 p129 q129
     obtain rfl : (⟨go55, 0, none⟩ : Addr) = ad129 := (by injection e129)
     (first | simp only [add_plain] at hx129_0 | simp only [add_at] at hx129_0 | simp only [Addr.add, Nat.zero_add] at hx129_0 | skip)
     have qi129 : (7 < l0.length) = True := eq_true (by omega)
     (try rw [show ((7 : Int)).toNat = 7 from rfl] at hx129_0)
     replace p129 := eq_true p129
     replace q129 := eq_true q129
     refine start_ (n := 40) (S := fun w' => w'.cell? ⟨go55, 0, none⟩ = some (.int .u32 (rd l0 0)) ∧ w'.cell? ⟨go55, 1, none⟩ = some (.int .u32 (rd l0 1)) ∧ w'.cell? ⟨go55, 2, none⟩ = some (.int .u32 (rd l0 2)) ∧ w'.cell? ⟨go55, 3, none⟩ = some (.int .u32 (rd l0 3)) ∧ w'.cell? ⟨go55, 4, none⟩ = some (.int .u32 (rd l0 4)) ∧ w'.cell? ⟨go55, 5, none⟩ = some (.int .u32 (rd l0 5)) ∧ w'.cell? ⟨go55, 6, none⟩ = some (.int .u32 (rd l0 6)) ∧ w'.cell? ⟨go55, 7, none⟩ = some (.int .u32 (rd l0 7))) (ds := []) #[false, false, false, false, false, false, false, false, false, false, false, false, false, false, false, false, false, false, false, false, false, false, false, false, false, false, false, false, false, false, false, false, false, false, false, false, false, false, false, false] (by kernel_rfl) rfl rfl ⟨hx122_0, hx123_0, hx124_0, hx125_0, hx126_0, hx127_0, hx128_0, hx129_0⟩ (fun hHeld => ?_); refine with_tabW sha_state_block.tab11 sha_state_block.bits11 (fun HT_ HW_ => ?_)
     generalize wr.drew = w70 at HO_0 HO_4 HK HB GG55 hf55_0 hf56_0 hf58_0 hf60_0 hf62_0 hf64_0 hf66_0 hf68_0 hx122_0 hx123_0 hx124_0 hx125_0 hx126_0 hx127_0 hx128_0 hx129_0 hx55_0 hx56_0 hx58_0 hx60_0 hx62_0 hx64_0 hx66_0 hx68_0 hHeld ⊢
     refine runs_ [(0, some 98), (1, some 99), (2, some 100), (4, some 102), (5, some 103), (6, some 104), (8, some 106), (9, some 107), (10, some 108), (12, some 110), (13, some 111), (14, some 112), (16, some 114), (17, some 115), (18, some 116), (20, some 118), (21, some 119), (22, some 120), (24, some 122), (25, some 123), (26, some 124), (28, some 126), (29, some 127), (30, some 128)] ?_
     iterate 24 (refine pL_ ?_)
     refine runsE_ ?_
     refine take_ (i := 3) (N := some 101) (v := ?_) (a' := ?_) #[true, true, true, true, true, true, true, false, true, true, true, false, true, true, true, false, true, true, true, false, true, true, true, false, true, true, true, false, true, true, true, false, false, false, false, false, false, false, false, false] rfl rfl (take_ofW HT_.out HW_.out (by kernel_rfl)) (fun _ _ _ h => h) (Or.inl ⟨by rfl, ?_⟩) hHeld ?_ ?_
     rotate_left
     ·rintro w' ⟨s0, s1, s2, s3, s4, s5, s6, s7⟩
      go_simp
      with_reducible rfl
     rotate_left
     ·simp only [pr_]
      rfl
     refine pure_ (i := 32) (N := some 9) (v := ?_) (a' := ?_) #[true, true, true, true, true, true, true, false, true, true, true, false, true, true, true, false, true, true, true, false, true, true, true, false, true, true, true, false, true, true, true, false, true, false, false, false, false, false, false, false] rfl rfl (any_of HT_.out (by kernel_rfl)) (fun _ _ _ h => h) (Or.inl ⟨by rfl, ?_⟩) ?_ ?_
     rotate_left
     ·intro w'
      go_simp
      with_reducible rfl
     rotate_left
     ·simp only [pr_]
      rfl
     refine take_ (i := 7) (N := some 105) (v := ?_) (a' := ?_) #[true, true, true, true, true, true, true, true, true, true, true, false, true, true, true, false, true, true, true, false, true, true, true, false, true, true, true, false, true, true, true, false, true, false, false, false, false, false, false, false] rfl rfl (take_ofW HT_.out HW_.out (by kernel_rfl)) (fun _ _ _ h => h) (Or.inl ⟨by rfl, ?_⟩) hHeld ?_ ?_
     rotate_left
     ·rintro w' ⟨s0, s1, s2, s3, s4, s5, s6, s7⟩
      go_simp
      with_reducible rfl
     rotate_left
     ·simp only [pr_]
      rfl
     refine pure_ (i := 33) (N := some 10) (v := ?_) (a' := ?_) #[true, true, true, true, true, true, true, true, true, true, true, false, true, true, true, false, true, true, true, false, true, true, true, false, true, true, true, false, true, true, true, false, true, true, false, false, false, false, false, false] rfl rfl (any_of HT_.out (by kernel_rfl)) (fun _ _ _ h => h) (Or.inl ⟨by rfl, ?_⟩) ?_ ?_
     rotate_left
     ·intro w'
      go_simp
      with_reducible rfl
     rotate_left
     ·simp only [pr_]
      rfl
     refine take_ (i := 11) (N := some 109) (v := ?_) (a' := ?_) #[true, true, true, true, true, true, true, true, true, true, true, true, true, true, true, false, true, true, true, false, true, true, true, false, true, true, true, false, true, true, true, false, true, true, false, false, false, false, false, false] rfl rfl (take_ofW HT_.out HW_.out (by kernel_rfl)) (fun _ _ _ h => h) (Or.inl ⟨by rfl, ?_⟩) hHeld ?_ ?_
     rotate_left
     ·rintro w' ⟨s0, s1, s2, s3, s4, s5, s6, s7⟩
      go_simp
      with_reducible rfl
     rotate_left
     ·simp only [pr_]
      rfl
     refine pure_ (i := 34) (N := some 11) (v := ?_) (a' := ?_) #[true, true, true, true, true, true, true, true, true, true, true, true, true, true, true, false, true, true, true, false, true, true, true, false, true, true, true, false, true, true, true, false, true, true, true, false, false, false, false, false] rfl rfl (any_of HT_.out (by kernel_rfl)) (fun _ _ _ h => h) (Or.inl ⟨by rfl, ?_⟩) ?_ ?_
     rotate_left
     ·intro w'
      go_simp
      with_reducible rfl
     rotate_left
     ·simp only [pr_]
      rfl
     refine take_ (i := 15) (N := some 113) (v := ?_) (a' := ?_) #[true, true, true, true, true, true, true, true, true, true, true, true, true, true, true, true, true, true, true, false, true, true, true, false, true, true, true, false, true, true, true, false, true, true, true, false, false, false, false, false] rfl rfl (take_ofW HT_.out HW_.out (by kernel_rfl)) (fun _ _ _ h => h) (Or.inl ⟨by rfl, ?_⟩) hHeld ?_ ?_
     rotate_left
     ·rintro w' ⟨s0, s1, s2, s3, s4, s5, s6, s7⟩
      go_simp
      with_reducible rfl
     rotate_left
     ·simp only [pr_]
      rfl
     refine pure_ (i := 35) (N := some 12) (v := ?_) (a' := ?_) #[true, true, true, true, true, true, true, true, true, true, true, true, true, true, true, true, true, true, true, false, true, true, true, false, true, true, true, false, true, true, true, false, true, true, true, true, false, false, false, false] rfl rfl (any_of HT_.out (by kernel_rfl)) (fun _ _ _ h => h) (Or.inl ⟨by rfl, ?_⟩) ?_ ?_
     rotate_left
     ·intro w'
      go_simp
      with_reducible rfl
     rotate_left
     ·simp only [pr_]
      rfl
     refine take_ (i := 19) (N := some 117) (v := ?_) (a' := ?_) #[true, true, true, true, true, true, true, true, true, true, true, true, true, true, true, true, true, true, true, true, true, true, true, false, true, true, true, false, true, true, true, false, true, true, true, true, false, false, false, false] rfl rfl (take_ofW HT_.out HW_.out (by kernel_rfl)) (fun _ _ _ h => h) (Or.inl ⟨by rfl, ?_⟩) hHeld ?_ ?_
     rotate_left
     ·rintro w' ⟨s0, s1, s2, s3, s4, s5, s6, s7⟩
      go_simp
      with_reducible rfl
     rotate_left
     ·simp only [pr_]
      rfl
     refine pure_ (i := 36) (N := some 13) (v := ?_) (a' := ?_) #[true, true, true, true, true, true, true, true, true, true, true, true, true, true, true, true, true, true, true, true, true, true, true, false, true, true, true, false, true, true, true, false, true, true, true, true, true, false, false, false] rfl rfl (any_of HT_.out (by kernel_rfl)) (fun _ _ _ h => h) (Or.inl ⟨by rfl, ?_⟩) ?_ ?_
     rotate_left
     ·intro w'
      go_simp
      with_reducible rfl
     rotate_left
     ·simp only [pr_]
      rfl
     refine take_ (i := 23) (N := some 121) (v := ?_) (a' := ?_) #[true, true, true, true, true, true, true, true, true, true, true, true, true, true, true, true, true, true, true, true, true, true, true, true, true, true, true, false, true, true, true, false, true, true, true, true, true, false, false, false] rfl rfl (take_ofW HT_.out HW_.out (by kernel_rfl)) (fun _ _ _ h => h) (Or.inl ⟨by rfl, ?_⟩) hHeld ?_ ?_
     rotate_left
     ·rintro w' ⟨s0, s1, s2, s3, s4, s5, s6, s7⟩
      go_simp
      with_reducible rfl
     rotate_left
     ·simp only [pr_]
      rfl
     refine pure_ (i := 37) (N := some 14) (v := ?_) (a' := ?_) #[true, true, true, true, true, true, true, true, true, true, true, true, true, true, true, true, true, true, true, true, true, true, true, true, true, true, true, false, true, true, true, false, true, true, true, true, true, true, false, false] rfl rfl (any_of HT_.out (by kernel_rfl)) (fun _ _ _ h => h) (Or.inl ⟨by rfl, ?_⟩) ?_ ?_
     rotate_left
     ·intro w'
      go_simp
      with_reducible rfl
     rotate_left
     ·simp only [pr_]
      rfl
     refine take_ (i := 27) (N := some 125) (v := ?_) (a' := ?_) #[true, true, true, true, true, true, true, true, true, true, true, true, true, true, true, true, true, true, true, true, true, true, true, true, true, true, true, true, true, true, true, false, true, true, true, true, true, true, false, false] rfl rfl (take_ofW HT_.out HW_.out (by kernel_rfl)) (fun _ _ _ h => h) (Or.inl ⟨by rfl, ?_⟩) hHeld ?_ ?_
     rotate_left
     ·rintro w' ⟨s0, s1, s2, s3, s4, s5, s6, s7⟩
      go_simp
      with_reducible rfl
     rotate_left
     ·simp only [pr_]
      rfl
     refine pure_ (i := 38) (N := some 15) (v := ?_) (a' := ?_) #[true, true, true, true, true, true, true, true, true, true, true, true, true, true, true, true, true, true, true, true, true, true, true, true, true, true, true, true, true, true, true, false, true, true, true, true, true, true, true, false] rfl rfl (any_of HT_.out (by kernel_rfl)) (fun _ _ _ h => h) (Or.inl ⟨by rfl, ?_⟩) ?_ ?_
     rotate_left
     ·intro w'
      go_simp
      with_reducible rfl
     rotate_left
     ·simp only [pr_]
      rfl
     refine take_ (i := 31) (N := some 129) (v := ?_) (a' := ?_) #[true, true, true, true, true, true, true, true, true, true, true, true, true, true, true, true, true, true, true, true, true, true, true, true, true, true, true, true, true, true, true, true, true, true, true, true, true, true, true, false] rfl rfl (take_ofW HT_.out HW_.out (by kernel_rfl)) (fun _ _ _ h => h) (Or.inl ⟨by rfl, ?_⟩) hHeld ?_ ?_
     rotate_left
     ·rintro w' ⟨s0, s1, s2, s3, s4, s5, s6, s7⟩
      go_simp
      with_reducible rfl
     rotate_left
     ·simp only [pr_]
      rfl
     refine pure_ (i := 39) (N := some 16) (v := ?_) (a' := ?_) #[true, true, true, true, true, true, true, true, true, true, true, true, true, true, true, true, true, true, true, true, true, true, true, true, true, true, true, true, true, true, true, true, true, true, true, true, true, true, true, true] rfl rfl (any_of HT_.out (by kernel_rfl)) (fun _ _ _ h => h) (Or.inl ⟨by rfl, ?_⟩) ?_ ?_
     rotate_left
     ·intro w'
      go_simp
      with_reducible rfl
     rotate_left
     ·simp only [pr_]
      rfl
     refine done_ (done_of HT_.out (by kernel_rfl)) ?_
     try go_wp2
     go_loopg [9, 10, 11, 12, 13, 14, 15, 16, 130] k2 (fun kq v9 v10 v11 v12 v13 v14 v15 v16 v130 w' => ∃ (x9_3 : Int) (x10_3 : Int) (x11_3 : Int) (x12_3 : Int) (x13_3 : Int) (x14_3 : Int) (x15_3 : Int) (x16_3 : Int) (x130_3 : Int), v9 = .int .u32 x9_3 ∧ v10 = .int .u32 x10_3 ∧ v11 = .int .u32 x11_3 ∧ v12 = .int .u32 x12_3 ∧ v13 = .int .u32 x13_3 ∧ v14 = .int .u32 x14_3 ∧ v15 = .int .u32 x15_3 ∧ v16 = .int .u32 x16_3 ∧ v130 = .int .i64 x130_3 ∧ Aside0 (sha_state_block.l2 kq l0 x4_2 x9_3 x10_3 x11_3 x12_3 x13_3 x14_3 x15_3 x16_3 x130_3 = some r) ∧ Aside0 (kq ≤ k2) ∧ Aside0 (Kd.R (Kd.int .u32) 140 w' w0.heap.size (fun k_ => (P0_ k_ ∨ w.heap.size ≤ k_)) (.slice (some ⟨go55, 0, none⟩) l0.length co55) l0) ∧ Aside0 (Kd.R (Kd.int .u32) 132 w' w0.heap.size (fun k_ => (P0_ k_ ∨ w.heap.size ≤ k_)) v110 x4_2) ∧ Aside0 (Kept w w' (fun k_ => P0_ k_)) ∧ Aside0 (Below w0.heap.size w0 w'))
     case atStart => exact ⟨(rd l0 0), (rd l0 1), (rd l0 2), (rd l0 3), (rd l0 4), (rd l0 5), (rd l0 6), (rd l0 7), (0), vq_, vq_, vq_, vq_, vq_, vq_, vq_, vq_, vq_, H', ⟨Nat.le_refl _⟩, ⟨mv_ HO_0.out⟩, ⟨mv_ HO_4.out⟩, ⟨by repeat (first | (with_reducible first | exact HK.out | apply Kept.alloc | apply Kept.drewN | apply Kept.drew) | exact HK.out)⟩, ⟨bl_⟩⟩
     case round =>
      clear H'
      (try clear p1); (try clear q1); (try clear hx1); (try clear qi1); (try clear c2); (try clear p2); (try clear c3); (try clear c4); (try clear c5); (try clear p5); (try clear q5); (try clear hx5); (try clear qi5); (try clear hf5); (try clear c6); (try clear p6); (try clear q6); (try clear hx6); (try clear qi6); (try clear hf6); (try clear p12); (try clear q12); (try clear hx12); (try clear qi12); (try clear c28); (try clear c28b0); (try clear c29); (try clear c31); (try clear c32); (try clear c34); (try clear c35); (try clear c37); (try clear c38); (try clear c40); (try clear c41); (try clear c46); (try clear c47); (try clear c53); (try clear c53b0); (try clear c53b1); (try clear c54); (try clear c54b0); (try clear c54b1); (try clear p55); (try clear q55); (try clear hx55); (try clear qi55); (try clear hf55); (try clear p56); (try clear q56); (try clear hx56); (try clear qi56); (try clear hf56); (try clear c57); (try clear c57b0); (try clear c57b1); (try clear p58); (try clear q58); (try clear hx58); (try clear qi58); (try clear hf58); (try clear c59); (try clear c59b0); (try clear c59b1); (try clear p60); (try clear q60); (try clear hx60); (try clear qi60); (try clear hf60); (try clear c61); (try clear c61b0); (try clear c61b1); (try clear p62); (try clear q62); (try clear hx62); (try clear qi62); (try clear hf62); (try clear c63); (try clear c63b0); (try clear c63b1); (try clear p64); (try clear q64); (try clear hx64); (try clear qi64); (try clear hf64); (try clear c65); (try clear c65b0); (try clear c65b1); (try clear p66); (try clear q66); (try clear hx66); (try clear qi66); (try clear hf66); (try clear c67); (try clear c67b0); (try clear c67b1); (try clear p68); (try clear q68); (try clear hx68); (try clear qi68); (try clear hf68); (try clear c69); (try clear c69b0); (try clear c69b1); (try clear hx122_0); (try clear hx123_0); (try clear hx124_0); (try clear hx125_0); (try clear hx126_0); (try clear hx127_0); (try clear hx128_0); (try clear hx129_0); (try clear hx55_0); (try clear hx56_0); (try clear hx58_0); (try clear hx60_0); (try clear hx62_0); (try clear hx64_0); (try clear hx66_0); (try clear hx68_0); (try clear p122); (try clear p123); (try clear p124); (try clear p125); (try clear p126); (try clear p127); (try clear p128); (try clear p129); (try clear p55); (try clear p56); (try clear p58); (try clear p60); (try clear p62); (try clear p64); (try clear p66); (try clear p68); (try clear q122); (try clear q123); (try clear q124); (try clear q125); (try clear q126); (try clear q127); (try clear q128); (try clear q129); (try clear q55); (try clear q56); (try clear q58); (try clear q60); (try clear q62); (try clear q64); (try clear q66); (try clear q68)
      obtain ⟨x9_3, x10_3, x11_3, x12_3, x13_3, x14_3, x15_3, x16_3, x130_3, rfl, rfl, rfl, rfl, rfl, rfl, rfl, rfl, rfl, HA, HK3, HO_0, HO_4, HK, HB⟩ := hrel
      cases gk with
      | zero => exact absurd HA.out (by simp [sha_state_block.l2])
      | succ k3 =>
       have H := HA.out
       clear HA
       simp only [sha_state_block.l2] at H
       by_cases c71 : x130_3 < 64
       ·rw [if_pos c71] at H
        have c71b0 : decide (x130_3 < 64) = true := decide_eq_true c71
        clear c71
        revert H; refine oa_ fun t130 A72 => oa_ fun t131 A73 => oa_ fun t132 A74 => ne_ fun c75 c75b0 c75b1 => nd_ fun c76 c76b0 => nd_ fun c77 c77b0 => ne_ fun c78 c78b0 c78b1 => nd_ fun c79 c79b0 => oa_ fun t135 A80 => oa_ fun t136 A81 => oa_ fun t137 A82 H => ?_
        clear c75 c76 c77 c78 c79
        have H' := Aside0.mk H
        clear H
        try go_wp2
        replace HB := Aside0.mk (below_drew1 HB.out)
        replace HK := Aside0.mk (Kept.drew HK.out)
        replace HO_4 := Aside0.mk (Kd.R_drew HO_4.out)
        replace HO_0 := Aside0.mk (Kd.R_drew HO_0.out)
        have qa133 : ((x130_3 : Int) < (64 : Int)) = True := qa_ keysL 64
        have p133 : 0 ≤ (x130_3 : Int) := ad_
        have q133 : x130_3 < (keysL.length : Int) := ad_
        obtain ⟨ad133, e133, hx133_0⟩ := Kd.at_int (Kd.C_kept_now HRG.out HK.out) x130_3 p133 q133
        have hw133_0 := hx133_0
        obtain rfl : (⟨0, 0, none⟩ : Addr) = ad133 := (by injection e133)
        (first | simp only [add_plain] at hx133_0 | simp only [add_at] at hx133_0 | simp only [Addr.add, Nat.zero_add] at hx133_0 | skip)
        replace p133 := eq_true p133
        replace q133 := eq_true q133
        obtain ⟨Ao84, co84, eo84⟩ := Kd.R_slice HO_4.out
        (first | subst eo84 | (injection eo84 with f1_ f2_ f3_; have f4_ := f1_.symm; have f5_ := f3_.symm; clear f1_ f2_ f3_; subst f4_; subst f5_))
        have qa134 : ((x130_3 : Int) < (64 : Int)) = True := qa_ x4_2 64
        have p134 : 0 ≤ (x130_3 : Int) := ad_
        have q134 : x130_3 < (x4_2.length : Int) := ad_
        obtain ⟨ad134, e134, hx134_0⟩ := Kd.at_int (Kd.R_reads' HO_4.out).2.2 x130_3 p134 q134
        cases e134
        replace p134 := eq_true p134
        replace q134 := eq_true q134
        refine start_ (n := 28) (S := fun w' => w'.cell? ⟨0, (x130_3).toNat, none⟩ = some (.int .u32 (rd keysL x130_3)) ∧ w'.cell? (ad134.add (x130_3).toNat) = some (.int .u32 (rd x4_2 x130_3))) (ds := []) #[false, false, false, false, false, false, false, false, false, false, false, false, false, false, false, false, false, false, false, false, false, false, false, false, false, false, false, false] (by kernel_rfl) rfl rfl ⟨(by have h_ := Kd.foot_int (HRG.out _ (by repeat (first | exact HK.out | apply Kept.alloc | apply Kept.drewN | apply Kept.drew))) x130_3 (of_eq_true p133) (of_eq_true q133); (first | simp only [add_plain] at h_ | skip); exact h_), hx134_0⟩ (fun hHeld => ?_); refine with_tabW sha_state_block.tab15 sha_state_block.bits15 (fun HT_ HW_ => ?_)
        generalize wr.drew = w83 at HO_0 HO_4 HK HB hx133_0 hx134_0 hHeld ⊢
        refine runs_ [(0, some 133), (1, some 134), (3, some 136), (6, some 139), (10, some 143), (11, some 144), (12, some 145), (13, some 146), (14, some 147), (15, some 148), (16, some 149), (17, some 150), (19, some 152), (20, some 153), (23, some 156), (24, some 157)] ?_
        iterate 16 (refine pL_ ?_)
        refine runsE_ ?_
        refine runs_ [(21, some 154), (25, some 158)] ?_
        iterate 2 (refine takeL_ (v := ?_) (a' := ?_) rfl rfl (take_ofW HT_.out HW_.out (by kernel_rfl)) (Or.inl ⟨by rfl, ?_⟩) hHeld ?_ ?_ (fun _ _ _ h => h); rotate_left; (rintro w' ⟨s0, s1⟩; go_simp; with_reducible rfl); rotate_left; (simp only [pr_]; rfl))
        refine runsE_ ?_
        refine one_ (i := 2) (N := some 135) #[true, true, true, true, false, false, true, false, false, false, true, true, true, true, true, true, true, true, false, true, true, true, false, true, true, true, false, false] rfl rfl (one_of HT_.out (by kernel_rfl)) (by decide) (fun K hK => ?_)
        refine goes_ Tryz.func115 (by kernel_rfl) rfl #[.int .u32 x13_3, .int .i64 (-6)] (by rfl) rfl rfl gm1_ ?_
        with_reducible refine (bits_RotateLeft32.calls x13_3 (-6) t130 _ A72.out).mono ?_
        rintro e w' ⟨rfl, ⟨nd, rfl⟩⟩
        refine ⟨_, rfl, ?_⟩
        refine hK.out _ _ ⟨(by have h_ := Kd.foot_int (HRG.out _ (by repeat (first | exact HK.out | apply Kept.alloc | apply Kept.drewN | apply Kept.drew))) x130_3 (of_eq_true p133) (of_eq_true q133); (first | simp only [add_plain] at h_ | skip); exact h_), hHeld.2⟩ (fun hHeld => ?_)
        clear hK K
        refine norm_ (a' := ?_) ?_ ?_
        rotate_left
        ·show Act.put _ (some 135) _ = _
         simp only [pr_]
         rfl
        refine one_ (i := 4) (N := some 137) #[true, true, true, true, true, false, true, false, false, false, true, true, true, true, true, true, true, true, false, true, true, true, false, true, true, true, false, false] rfl rfl (one_of HT_.out (by kernel_rfl)) (by decide) (fun K hK => ?_)
        refine goes_ Tryz.func115 (by kernel_rfl) rfl #[.int .u32 x13_3, .int .i64 (-11)] (by rfl) rfl rfl gm1_ ?_
        with_reducible refine (bits_RotateLeft32.calls x13_3 (-11) t131 _ A73.out).mono ?_
        rintro e w' ⟨rfl, ⟨nd, rfl⟩⟩
        refine ⟨_, rfl, ?_⟩
        refine hK.out _ _ ⟨(by have h_ := Kd.foot_int (HRG.out _ (by repeat (first | exact HK.out | apply Kept.alloc | apply Kept.drewN | apply Kept.drew))) x130_3 (of_eq_true p133) (of_eq_true q133); (first | simp only [add_plain] at h_ | skip); exact h_), hHeld.2⟩ (fun hHeld => ?_)
        clear hK K
        refine norm_ (a' := ?_) ?_ ?_
        rotate_left
        ·show Act.put _ (some 137) _ = _
         simp only [pr_]
         rfl
        refine pure_ (i := 5) (N := some 138) (v := ?_) (a' := ?_) #[true, true, true, true, true, true, true, false, false, false, true, true, true, true, true, true, true, true, false, true, true, true, false, true, true, true, false, false] rfl rfl (any_of HT_.out (by kernel_rfl)) (fun _ _ _ h => h) (Or.inl ⟨by rfl, ?_⟩) ?_ ?_
        rotate_left
        ·intro w'
         go_simp
         with_reducible rfl
        rotate_left
        ·simp only [pr_]
         rfl
        refine one_ (i := 7) (N := some 140) #[true, true, true, true, true, true, true, true, false, false, true, true, true, true, true, true, true, true, false, true, true, true, false, true, true, true, false, false] rfl rfl (one_of HT_.out (by kernel_rfl)) (by decide) (fun K hK => ?_)
        refine goes_ Tryz.func115 (by kernel_rfl) rfl #[.int .u32 x13_3, .int .i64 (-25)] (by rfl) rfl rfl gm1_ ?_
        with_reducible refine (bits_RotateLeft32.calls x13_3 (-25) t132 _ A74.out).mono ?_
        rintro e w' ⟨rfl, ⟨nd, rfl⟩⟩
        refine ⟨_, rfl, ?_⟩
        refine hK.out _ _ ⟨(by have h_ := Kd.foot_int (HRG.out _ (by repeat (first | exact HK.out | apply Kept.alloc | apply Kept.drewN | apply Kept.drew))) x130_3 (of_eq_true p133) (of_eq_true q133); (first | simp only [add_plain] at h_ | skip); exact h_), hHeld.2⟩ (fun hHeld => ?_)
        clear hK K
        refine norm_ (a' := ?_) ?_ ?_
        rotate_left
        ·show Act.put _ (some 140) _ = _
         simp only [pr_]
         rfl
        refine runs_ [(8, some 141), (9, some 142), (18, some 151), (22, some 155), (26, some 159), (27, some 18)] ?_
        iterate 6 (refine pL_ ?_)
        refine runsE_ ?_
        refine done_ (done_of HT_.out (by kernel_rfl)) ?_
        try go_wp2_with (first | ((with_reducible refine gate_callee (f := 115) rfl ?_); refine gL_ 161 Tryz.func115 #[.int .u32 x9_3, .int .i64 (-2)] ?_; (with_reducible refine (bits_RotateLeft32.calls x9_3 (-2) t135 _ A80.out).mono ?_); rintro e w' ⟨rfl, ⟨nd, rfl⟩⟩; refine ⟨_, rfl, ?_⟩) | ((with_reducible refine gate_callee (f := 115) rfl ?_); refine gL_ 163 Tryz.func115 #[.int .u32 x9_3, .int .i64 (-13)] ?_; (with_reducible refine (bits_RotateLeft32.calls x9_3 (-13) t136 _ A81.out).mono ?_); rintro e w' ⟨rfl, ⟨nd, rfl⟩⟩; refine ⟨_, rfl, ?_⟩) | ((with_reducible refine gate_callee (f := 115) rfl ?_); refine gL_ 166 Tryz.func115 #[.int .u32 x9_3, .int .i64 (-22)] ?_; (with_reducible refine (bits_RotateLeft32.calls x9_3 (-22) t137 _ A82.out).mono ?_); rintro e w' ⟨rfl, ⟨nd, rfl⟩⟩; refine ⟨_, rfl, ?_⟩))
        go_roundg k3
        case measure => have := HK1.out; have := HK2.out; have := HK3.out; omega
        case rel => exact ⟨((((((x16_3 + (Go.bits .xor .u32 (Go.bits .xor .u32 t130 t131) t132)) + (Go.bits .xor .u32 (Go.bits .and .u32 x13_3 x14_3) (Go.bits .and .u32 (Go.bits .xor .u32 4294967295 x13_3) x15_3))) + (rd keysL x130_3)) + (rd x4_2 x130_3)) + ((Go.bits .xor .u32 (Go.bits .xor .u32 t135 t136) t137) + (Go.bits .xor .u32 (Go.bits .xor .u32 (Go.bits .and .u32 x9_3 x10_3) (Go.bits .and .u32 x9_3 x11_3)) (Go.bits .and .u32 x10_3 x11_3)))) % 4294967296), (x9_3), (x10_3), (x11_3), ((x12_3 + ((((x16_3 + (Go.bits .xor .u32 (Go.bits .xor .u32 t130 t131) t132)) + (Go.bits .xor .u32 (Go.bits .and .u32 x13_3 x14_3) (Go.bits .and .u32 (Go.bits .xor .u32 4294967295 x13_3) x15_3))) + (rd keysL x130_3)) + (rd x4_2 x130_3))) % 4294967296), (x13_3), (x14_3), (x15_3), (wrap64 (x130_3 + 1)), vq_, vq_, vq_, vq_, vq_, vq_, vq_, vq_, vq_, H', ⟨by have := HK1.out; have := HK2.out; have := HK3.out; omega⟩, ⟨mv_ HO_0.out⟩, ⟨mv_ HO_4.out⟩, ⟨by repeat (first | (with_reducible first | exact HK.out | apply Kept.alloc | apply Kept.drewN | apply Kept.drew) | exact HK.out)⟩, ⟨bl_⟩⟩
       rw [if_neg c71] at H
       have c71b0 : decide (x130_3 < 64) = false := decide_eq_false c71
       clear c71
       have H' := Aside0.mk H
       clear H
       go_wp2
       go_loopg [202] k3 (fun kq v202 w' => ∃ (x0_4 : List Int) (x202_4 : Int), v202 = .int .i64 x202_4 ∧ Aside0 (sha_state_block.l3 kq x0_4 x9_3 x10_3 x11_3 x12_3 x13_3 x14_3 x15_3 x16_3 x202_4 = some r) ∧ Aside0 (kq ≤ k3) ∧ Aside0 (Kd.R (Kd.int .u32) 140 w' w0.heap.size (fun k_ => (P0_ k_ ∨ w.heap.size ≤ k_)) (.slice (some ⟨go55, 0, none⟩) l0.length co55) x0_4) ∧ Aside0 (Kept w w' (fun k_ => P0_ k_)) ∧ Aside0 (Below w0.heap.size w0 w'))
       case atStart => exact ⟨(l0), (0), vq_, H', ⟨Nat.le_refl _⟩, ⟨mv_ HO_0.out⟩, ⟨by repeat (first | (with_reducible first | exact HK.out | apply Kept.alloc | apply Kept.drewN | apply Kept.drew) | exact HK.out)⟩, ⟨bl_⟩⟩
       case round =>
        clear H'
        (try clear c1); (try clear p1); (try clear q1); (try clear hx1); (try clear qi1); (try clear c2); (try clear p2); (try clear c3); (try clear c4); (try clear c5); (try clear p5); (try clear q5); (try clear hx5); (try clear qi5); (try clear hf5); (try clear c6); (try clear p6); (try clear q6); (try clear hx6); (try clear qi6); (try clear hf6); (try clear c7); (try clear c11); (try clear p12); (try clear q12); (try clear hx12); (try clear qi12); (try clear p13); (try clear q13); (try clear hx13); (try clear c28); (try clear c28b0); (try clear c29); (try clear c31); (try clear c32); (try clear c34); (try clear c35); (try clear c37); (try clear c38); (try clear c40); (try clear c41); (try clear c46); (try clear c47); (try clear c53); (try clear c53b0); (try clear c53b1); (try clear c54); (try clear c54b0); (try clear c54b1); (try clear p55); (try clear q55); (try clear hx55); (try clear qi55); (try clear hf55); (try clear p56); (try clear q56); (try clear hx56); (try clear qi56); (try clear hf56); (try clear c57); (try clear c57b0); (try clear c57b1); (try clear p58); (try clear q58); (try clear hx58); (try clear qi58); (try clear hf58); (try clear c59); (try clear c59b0); (try clear c59b1); (try clear p60); (try clear q60); (try clear hx60); (try clear qi60); (try clear hf60); (try clear c61); (try clear c61b0); (try clear c61b1); (try clear p62); (try clear q62); (try clear hx62); (try clear qi62); (try clear hf62); (try clear c63); (try clear c63b0); (try clear c63b1); (try clear p64); (try clear q64); (try clear hx64); (try clear qi64); (try clear hf64); (try clear c65); (try clear c65b0); (try clear c65b1); (try clear p66); (try clear q66); (try clear hx66); (try clear qi66); (try clear hf66); (try clear c67); (try clear c67b0); (try clear c67b1); (try clear p68); (try clear q68); (try clear hx68); (try clear qi68); (try clear hf68); (try clear c69); (try clear c69b0); (try clear c69b1); (try clear c71); (try clear c71b0); (try clear c75); (try clear c75b0); (try clear c75b1); (try clear c76); (try clear c76b0); (try clear c77); (try clear c77b0); (try clear c78); (try clear c78b0); (try clear c78b1); (try clear c79); (try clear c79b0); (try clear hx122_0); (try clear hx123_0); (try clear hx124_0); (try clear hx125_0); (try clear hx126_0); (try clear hx127_0); (try clear hx128_0); (try clear hx129_0); (try clear hx133_0); (try clear hx134_0); (try clear hx55_0); (try clear hx56_0); (try clear hx58_0); (try clear hx60_0); (try clear hx62_0); (try clear hx64_0); (try clear hx66_0); (try clear hx68_0); (try clear p1); (try clear p12); (try clear p122); (try clear p123); (try clear p124); (try clear p125); (try clear p126); (try clear p127); (try clear p128); (try clear p129); (try clear p133); (try clear p134); (try clear p2); (try clear p5); (try clear p55); (try clear p56); (try clear p58); (try clear p6); (try clear p60); (try clear p62); (try clear p64); (try clear p66); (try clear p68); (try clear q1); (try clear q12); (try clear q122); (try clear q123); (try clear q124); (try clear q125); (try clear q126); (try clear q127); (try clear q128); (try clear q129); (try clear q133); (try clear q134); (try clear q5); (try clear q55); (try clear q56); (try clear q58); (try clear q6); (try clear q60); (try clear q62); (try clear q64); (try clear q66); (try clear q68)
        obtain ⟨x0_4, x202_4, rfl, HA, HK4, HO_0, HK, HB⟩ := hrel
        have hl0_4 := (Kd.R_reads' HO_0.out).1
        rw [hl0_4] at HO_0
        (try simp only [hl0_4])
        cases gk with
        | zero => exact absurd HA.out (by simp [sha_state_block.l3])
        | succ k4 =>
         have H := HA.out
         clear HA
         simp only [sha_state_block.l3] at H
         by_cases c85 : x202_4 < 8
         ·rw [if_pos c85] at H
          have c85b0 : decide (x202_4 < 8) = true := decide_eq_true c85
          (try (have c85b7 := c85b0; simp only [hl0_4] at c85b7))
          clear c85
          revert H; refine nd_ fun c86 c86b0 => ne_ fun c87 c87b0 c87b1 => nd_ fun c88 c88b0 => nd_ fun c90 c90b0 H => ?_
          (try (have c86b7 := c86b0; simp only [hl0_4] at c86b7))
          have c88b1 : decide (0 < x0_4.length) = true := decide_eq_true (by omega)
          (try (have c88b7 := c88b0; simp only [hl0_4] at c88b7))
          (try (have c88b8 := c88b1; simp only [hl0_4] at c88b8))
          (try (have c90b7 := c90b0; simp only [hl0_4] at c90b7))
          clear c86 c87 c88 c90
          generalize e_ : (x0_4.set (x202_4 : Int).toNat (((rd x0_4 x202_4) + (rd [x9_3, x10_3, x11_3, x12_3, x13_3, x14_3, x15_3, x16_3] x202_4)) % 4294967296) : List Int) = y139 at H
          have Ny139 := Aside0.mk e_.symm
          clear e_
          have H' := Aside0.mk H
          clear H
          have p93 : 0 ≤ (x202_4 : Int) := ad_
          have q93 : (x202_4 : Int) < (8 : Int) := ad_
          try go_wp2_with (first | ((with_reducible refine gate_dst (N := 205) rfl ?_); (try (refine gate_guard (by rfl) ?_; dsimp only)); refine aidx_event (P := Tryz.prog) (k := .u32) (n := 8) rfl (N := 205) rfl 130 77 _ _ rfl [x9_3, x10_3, x11_3, x12_3, x13_3, x14_3, x15_3, x16_3] rfl x202_4 rfl Tryz.underlying130 rfl (by go_simp) (by go_simp) p93 q93 ?_))
          replace HB := Aside0.mk (below_drew1 HB.out)
          replace HK := Aside0.mk (Kept.drew HK.out)
          replace HO_0 := Aside0.mk (Kd.R_drew HO_0.out)
          have qa89 : ((0 : Int) < (8 : Int)) = True := qa_ x0_4 8
          have p89 : 0 ≤ (0 : Int) := (by omega)
          have q89 : (0 : Int) < ((x0_4.length : Int) : Int) := ad_
          have qi89 : (0 < x0_4.length) = True := eq_true (by omega)
          obtain ⟨hx89_0, hf89_0⟩ := Kd.R_celln 0 HO_0.out (0 : Int) p89 q89
          (try rw [show ((0 : Int)).toNat = 0 from rfl] at hx89_0)
          (try simp only [Nat.reduceMul, Nat.zero_mul, Nat.zero_add, Nat.reduceAdd] at hx89_0)
          (try rw [show ((0 : Int)).toNat = 0 from rfl] at hf89_0)
          (try simp only [Nat.reduceMul, Nat.zero_mul, Nat.zero_add, Nat.reduceAdd] at hf89_0)
          replace p89 := eq_true p89
          replace q89 := eq_true q89
          have qa138 : ((x202_4 : Int) < (8 : Int)) = True := qa_ x0_4 8
          have p138 : 0 ≤ (x202_4 : Int) := ad_
          have q138 : x202_4 < (x0_4.length : Int) := ad_
          obtain ⟨ad138, e138, hx138_0⟩ := Kd.at_int (Kd.R_reads' HO_0.out).2.2 x202_4 p138 q138
          obtain rfl : (⟨go55, 0, none⟩ : Addr) = ad138 := (by injection e138)
          (first | simp only [add_plain] at hx138_0 | simp only [add_at] at hx138_0 | simp only [Addr.add, Nat.zero_add] at hx138_0 | skip)
          replace p138 := eq_true p138
          replace q138 := eq_true q138
          have qa91 : ((0 : Int) < (8 : Int)) = True := qa_ x0_4 8
          have p91 : 0 ≤ (0 : Int) := (by omega)
          have q91 : (0 : Int) < ((x0_4.length : Int) : Int) := ad_
          have qi91 : (0 < x0_4.length) = True := eq_true (by omega)
          obtain ⟨hx91_0, hf91_0⟩ := Kd.R_celln 0 HO_0.out (0 : Int) p91 q91
          (try rw [show ((0 : Int)).toNat = 0 from rfl] at hx91_0)
          (try simp only [Nat.reduceMul, Nat.zero_mul, Nat.zero_add, Nat.reduceAdd] at hx91_0)
          (try rw [show ((0 : Int)).toNat = 0 from rfl] at hf91_0)
          (try simp only [Nat.reduceMul, Nat.zero_mul, Nat.zero_add, Nat.reduceAdd] at hf91_0)
          replace p91 := eq_true p91
          replace q91 := eq_true q91
          have qa92 : ((x202_4 : Int) < (8 : Int)) = True := qa_ x0_4 8
          have p92 : 0 ≤ (x202_4 : Int) := ad_
          have q92 : (x202_4 : Int) < ((x0_4.length : Int) : Int) := ad_
          obtain ⟨hx92_0, hf92_0⟩ := Kd.R_celln 0 HO_0.out (x202_4 : Int) p92 q92
          replace p92 := eq_true p92
          replace q92 := eq_true q92
          have HP95 := Kd.R_putn HO_0.out (x202_4 : Int) (((rd x0_4 x202_4) + (rd [x9_3, x10_3, x11_3, x12_3, x13_3, x14_3, x15_3, x16_3] x202_4)) % 4294967296)
          rw [← Ny139.out] at HP95
          have HQ95 := Aside0.mk HP95
          clear HP95
          refine start_ (n := 10) (S := fun w' => w'.cell? ⟨go55, (x202_4).toNat, none⟩ = some (.int .u32 (rd x0_4 x202_4))) (ds := [9]) #[false, false, false, false, false, false, false, false, false, false] (by kernel_rfl) rfl rfl (hx138_0) (fun hHeld => ?_); refine with_tabW sha_state_block.tab22 sha_state_block.bits22 (fun HT_ HW_ => ?_)
          generalize wr.drew = w94 at HO_0 HK HB HQ95 hf89_0 hf91_0 hf92_0 hx138_0 hx89_0 hx91_0 hx92_0 hHeld ⊢
          refine runs_ [(0, some 206), (1, some 207), (2, some 208), (3, some 209), (5, some 211), (7, some 213)] ?_
          iterate 6 (refine pL_ ?_)
          refine runsE_ ?_
          refine take_ (i := 4) (N := some 210) (v := ?_) (a' := ?_) #[true, true, true, true, true, true, false, true, false, false] rfl rfl (take_ofW HT_.out HW_.out (by kernel_rfl)) (fun _ _ _ h => h) (Or.inl ⟨by rfl, ?_⟩) hHeld ?_ ?_
          rotate_left
          ·intro w' s0
           go_simp
           with_reducible rfl
          rotate_left
          ·simp only [pr_]
           rfl
          refine runs_ [(6, some 212), (8, some 214)] ?_
          iterate 2 (refine pL_ ?_)
          refine runsE_ ?_
          refine last_ (i := 9) (N := none) #[true, true, true, true, true, true, true, true, true, true] rfl rfl (one_of HT_.out (by kernel_rfl)) (by decide) (fun K hK => ?_)
          refine skip_set ⟨go55, (x202_4 : Int).toNat, none⟩ (.int .u32 (((rd x0_4 x202_4) + (rd [x9_3, x10_3, x11_3, x12_3, x13_3, x14_3, x15_3, x16_3] x202_4)) % 4294967296)) (by rfl) rfl ?_ ?_
          ·first | (go_simp; done) | (go_simp; rfl) | (go_simp; (try simp only [IntKind.wrap_u32, IntKind.wrap_u8]); refine congrArg (fun v_ => World.setCell _ _ (Value.int _ v_)) ?_; omega)
          refine hK.out _ _ ?_
          clear hK K
          refine done_ (done_of HT_.out (by kernel_rfl)) ?_
          try go_wp2
          (try simp only [← hl0_4])
          go_roundg k4
          case measure => have := HK1.out; have := HK2.out; have := HK3.out; have := HK4.out; omega
          case rel => exact ⟨(y139), (wrap64 (x202_4 + 1)), vq_, H', ⟨by have := HK1.out; have := HK2.out; have := HK3.out; have := HK4.out; omega⟩, ⟨by (try simp only [hl0_4]); refine mv_ ?_; exact HQ95.out⟩, ⟨by repeat (first | (with_reducible first | exact HK.out | apply Kept.alloc | apply Kept.drewN | apply Kept.drew | refine Kept.setCell ?_ HMgo55.out _) | exact HK.out)⟩, ⟨bs_ GB55.out⟩⟩
         rw [if_neg c85] at H
         have c85b0 : decide (x202_4 < 8) = false := decide_eq_false c85
         (try (have c85b7 := c85b0; simp only [hl0_4] at c85b7))
         clear c85
         obtain rfl := Option.some.inj H
         go_wp2
         first | go_end0 | ((try simp only [Exit.inBlock, Exit.then]); refine bodyPost_ret (results_none rfl _ _ _) rfl ?_)
         exact ⟨er_, (by first | exact (mv_ HO_0.out) | (simp only [hl0_4]; exact (mv_ HO_0.out))), bl_, by repeat (first | (with_reducible first | exact HK.out | apply Kept.alloc | apply Kept.drewN | apply Kept.drew) | exact HK.out)⟩

/-! ### sha_Sum: function 74 -/
mutual
def sha_Sum.l0 : Nat → ByteArray → List Int → Int → Option (ByteArray)
 | 0, _, _, _ => none
 | k + 1, x0, x3, x4 => if (x0.size : Int) ≥ 64 then (if 0 ≤ 64 then (if 64 ≤ (x0.size : Int) then ((sha_state_block.f k x3 (x0.extract 0 64)).bind fun t144 => (sha_Sum.l0 k (x0.extract 64 x0.size) t144 x4)) else (none)) else (none)) else ((some (List.replicate 128 0 : List Int)).bind fun y145 => (if y145.length = 128 then (if 0 < (y145.length : Int) then (if x0.size ≤ y145.length then ((some (bytesOf x0 ++ y145.drop x0.size : List Int)).bind fun y148 => (if (x0.size : Int) ≥ 56 then (sha_Sum.j1 k x0 x3 x4 y148 128) else (sha_Sum.j1 k x0 x3 x4 y148 64))) else (none)) else (none)) else (none)))
def sha_Sum.j1 : Nat → ByteArray → List Int → Int → List Int → Int → Option (ByteArray)
 | 0, _, _, _, _, _ => none
 | k + 1, x0, x3, x4, x5, x6 => if x5.length = 128 then (if 0 ≤ (x0.size : Int) then (if (x0.size : Int) < (x5.length : Int) then (sha_Sum.l1 k x3 x4 (x5.set ((x0.size : Int) : Int).toNat 128) x6 0) else (none)) else (none)) else (none)
def sha_Sum.l1 : Nat → List Int → Int → List Int → Int → Int → Option (ByteArray)
 | 0, _, _, _, _, _ => none
 | k + 1, x3, x4, x5, x6, x31 => if x31 < 8 then (if 0 ≤ (wrap64 (8 * x31)) then (if x5.length = 128 then (if 0 ≤ (wrap64 ((wrap64 (x6 - 1)) - x31)) then (if (wrap64 ((wrap64 (x6 - 1)) - x31)) < (x5.length : Int) then (sha_Sum.l1 k x3 x4 (x5.set ((wrap64 ((wrap64 (x6 - 1)) - x31)) : Int).toNat ((shr .u64 x4 (wrap64 (8 * x31))) % 256)) x6 (wrap64 (x31 + 1))) else (none)) else (none)) else (none)) else (none)) else (if x5.length = 128 then (if 0 ≤ x6 then (if x6 ≤ 128 then (if 0 < (x5.length : Int) then (sha_Sum.l2 k x3 (strOfNums (x5.take (x6 : Int).toNat))) else (none)) else (none)) else (none)) else (none))
def sha_Sum.l2 : Nat → List Int → ByteArray → Option (ByteArray)
 | 0, _, _ => none
 | k + 1, x3, x8 => if x8.toList = ([] : List UInt8) then (sha_Sum.l3 k x3 (List.replicate 32 0) 0) else (if 0 ≤ 64 then (if 64 ≤ (x8.size : Int) then ((sha_state_block.f k x3 (x8.extract 0 64)).bind fun t151 => (sha_Sum.l2 k t151 (x8.extract 64 x8.size))) else (none)) else (none))
def sha_Sum.l3 : Nat → List Int → List Int → Int → Option (ByteArray)
 | 0, _, _, _ => none
 | k + 1, x3, x9, x55 => if x55 < 32 then (if x3.length = 8 then (if 0 ≤ (wrap64 (Int.tdiv x55 4)) then (if (wrap64 (Int.tdiv x55 4)) < (x3.length : Int) then (if 0 ≤ (wrap64 (24 - (wrap64 (8 * (Int.tmod x55 4))))) then (if x9.length = 32 then (if 0 ≤ x55 then (if x55 < (x9.length : Int) then (sha_Sum.l3 k x3 (x9.set (x55 : Int).toNat ((shr .u32 (rd x3 (wrap64 (Int.tdiv x55 4))) (wrap64 (24 - (wrap64 (8 * (Int.tmod x55 4)))))) % 256)) (wrap64 (x55 + 1))) else (none)) else (none)) else (none)) else (none)) else (none)) else (none)) else (none)) else (if x9.length = 32 then (if 0 < (x9.length : Int) then (some (strOfNums (x9.take 32))) else (none)) else (none))
end
def sha_Sum.f (k : Nat) (a0 : ByteArray) : Option (ByteArray) := (sha_begin.f).bind fun _ => ((some (List.replicate 8 0 : List Int)).bind fun y140 => (if y140.length = 8 then (if 0 < (y140.length : Int) then (sha_Sum.l0 k a0 ([1779033703, 3144134277, 1013904242, 2773480762, 1359893119, 2600822924, 528734635, 1541459225]) (IntKind.u64.wrap ((IntKind.u64.wrap ((a0.size : Int))) * 8))) else (none)) else (none)))
theorem sha_Sum.mono_l : ∀ k, (∀ y0 y1 y2, LeO (sha_Sum.l0 k y0 y1 y2) (sha_Sum.l0 (k + 1) y0 y1 y2)) ∧ (∀ y0 y1 y2 y3 y4, LeO (sha_Sum.j1 k y0 y1 y2 y3 y4) (sha_Sum.j1 (k + 1) y0 y1 y2 y3 y4)) ∧ (∀ y0 y1 y2 y3 y4, LeO (sha_Sum.l1 k y0 y1 y2 y3 y4) (sha_Sum.l1 (k + 1) y0 y1 y2 y3 y4)) ∧ (∀ y0 y1, LeO (sha_Sum.l2 k y0 y1) (sha_Sum.l2 (k + 1) y0 y1)) ∧ (∀ y0 y1 y2, LeO (sha_Sum.l3 k y0 y1 y2) (sha_Sum.l3 (k + 1) y0 y1 y2))
 | 0 => ⟨fun _ _ _ r h => by simp [sha_Sum.l0] at h, fun _ _ _ _ _ r h => by simp [sha_Sum.j1] at h, fun _ _ _ _ _ r h => by simp [sha_Sum.l1] at h, fun _ _ r h => by simp [sha_Sum.l2] at h, fun _ _ _ r h => by simp [sha_Sum.l3] at h⟩
 | k + 1 => by
  obtain ⟨ih0, ih1, ih2, ih3, ih4⟩ := sha_Sum.mono_l k
  refine ⟨?_, ?_, ?_, ?_, ?_⟩ <;> intros <;> (first | unfold sha_Sum.l0 | unfold sha_Sum.j1 | unfold sha_Sum.l1 | unfold sha_Sum.l2 | unfold sha_Sum.l3) <;> repeat' first
  | (with_reducible exact ih0 _ _ _)
  | (with_reducible exact ih1 _ _ _ _ _)
  | (with_reducible exact ih2 _ _ _ _ _)
  | (with_reducible exact ih3 _ _)
  | (with_reducible exact ih4 _ _ _)
  | (with_reducible exact sha_state_block.mono _ _ _)
  | (with_reducible exact LeO.refl _)
  | (with_reducible exact LeO.none _)
  | (with_reducible refine LeO.ite ?_ ?_)
  | (with_reducible refine LeO.bind ?_ (fun _ => ?_))
  | exact ih0 _ _ _
  | exact ih1 _ _ _ _ _
  | exact ih2 _ _ _ _ _
  | exact ih3 _ _
  | exact ih4 _ _ _
  | exact sha_state_block.mono _ _ _
  | exact LeO.none _
  | refine LeO.ite ?_ ?_
  | refine LeO.bind ?_ (fun _ => ?_)
theorem sha_Sum.mono : ∀ a0 k, LeO (sha_Sum.f k a0) (sha_Sum.f (k + 1) a0) := by
 intro a0 k
 obtain ⟨ih0, ih1, ih2, ih3, ih4⟩ := sha_Sum.mono_l k
 unfold sha_Sum.f
 repeat' first
  | (with_reducible exact ih0 _ _ _)
  | (with_reducible exact ih1 _ _ _ _ _)
  | (with_reducible exact ih2 _ _ _ _ _)
  | (with_reducible exact ih3 _ _)
  | (with_reducible exact ih4 _ _ _)
  | (with_reducible exact sha_state_block.mono _ _ _)
  | (with_reducible exact LeO.refl _)
  | (with_reducible exact LeO.none _)
  | (with_reducible refine LeO.ite ?_ ?_)
  | (with_reducible refine LeO.bind ?_ (fun _ => ?_))
  | exact ih0 _ _ _
  | exact ih1 _ _ _ _ _
  | exact ih2 _ _ _ _ _
  | exact ih3 _ _
  | exact ih4 _ _ _
  | exact sha_state_block.mono _ _ _
  | exact LeO.none _
  | refine LeO.ite ?_ ?_
  | refine LeO.bind ?_ (fun _ => ?_)
set_option maxHeartbeats 64000000 in
set_option maxRecDepth 100000 in
theorem sha_Sum.calls (k : Nat) (a0 : ByteArray) (r : ByteArray) (w : World) (hrG : Kd.C (Kd.int .u32) w (some ⟨0, 0, none⟩) keysL.length keysL) (h : sha_Sum.f k a0 = some r) :
 Calls Tryz.prog 74 #[.string a0] w fun e w' => e = .returned (.string r) ∧ Below w.heap.size w w' := by
 have hu140 := Tryz.underlying140
 have hu145 := Tryz.underlying145
 have HRG := Aside0.mk hrG
 clear hrG
 have HB := Aside0.mk (Below.refl w.heap.size w)
 have H : ((sha_begin.f).bind fun _ => ((some (List.replicate 8 0 : List Int)).bind fun y140 => (if y140.length = 8 then (if 0 < (y140.length : Int) then (sha_Sum.l0 k a0 ([1779033703, 3144134277, 1013904242, 2773480762, 1359893119, 2600822924, 528734635, 1541459225]) (IntKind.u64.wrap ((IntKind.u64.wrap ((a0.size : Int))) * 8))) else (none)) else (none)))) = some r := h
 clear h
 revert H; refine oa_ fun _ A2 => oy_ fun y140 Ny140 => ne_ fun c3 c3b0 c3b1 => nd_ fun c4 c4b0 H => ?_
 have c4b1 : decide (0 < y140.length) = true := decide_eq_true (by omega)
 clear c3 c4
 generalize e_ : ([1779033703, 3144134277, 1013904242, 2773480762, 1359893119, 2600822924, 528734635, 1541459225] : List Int) = y143 at H
 have Ny143 := Aside0.mk e_.symm
 clear e_
 have H' := Aside0.mk H
 clear H
 go_enter Tryz.func74, Tryz.ntmps74
 go_wp2_with (first | ((with_reducible refine gate_callee (f := 104) rfl ?_); refine gL_ 11 Tryz.func104 #[] ?_; (with_reducible refine (sha_begin.calls   _ A2.out).mono ?_); rintro e w6 ⟨rfl, hb⟩; refine ⟨_, rfl, ?_⟩; replace HB := Aside0.mk (below_step bl_ hb); (try clear hb); (try clear hb2); (try clear hk); (try clear hi)) | ((with_reducible refine gate_dst (N := 3) rfl ?_); refine R_arr (Value.int .u32) (fun _ => rfl) _ 140 ?hg (N := 3) ?hd (List.replicate 8 0) ?hr (Below.refl _ _) (Nat.le_refl _) (by decide) ?_; (case hd => rfl); (case hg => rfl); (case hr => exact gr_); intro v141 w7 ho8 hb hg_ hnew_; clear hg_ hnew_; (first | rw [← Ny140.out] at ho8 | (simp only [Int.reduceToNat] at ho8; rw [← Ny140.out] at ho8)); have HO142 := Aside0.mk (Kd.R_lower ho8 (below_size bl_)); replace HB := Aside0.mk (below_step bl_ hb); clear hb ho8; have qa5 : ((0 : Int) < (8 : Int)) = True := eq_true (by have e_ : y140.length = 8 := ae_; have h_ : (0 : Int) < ((y140.length : Int) : Int) := ae_; omega); have p5 : 0 ≤ (0 : Int) := (by omega); have q5 : (0 : Int) < ((y140.length : Int) : Int) := ae_; have qi5 : (0 < y140.length) = True := eq_true (by omega); obtain ⟨go5, co5, eo5, gb5, gl5, cl5, HG5⟩ := Kd.R_form HO142.out (by omega); (first | cases eo5 | (injection eo5 with ea_ en_ ec_; (first | subst ea_ | (injection ea_ with ea_; subst ea_)); subst ec_; clear en_)); have GB5 := Aside0.mk gb5; have GG5 := Aside0.mk HG5; clear gb5 gl5 HG5; obtain ⟨hx5_0, hf5_0⟩ := Kd.R_celln 0 HO142.out (0 : Int) p5 q5; (try rw [show ((0 : Int)).toNat = 0 from rfl] at hx5_0); (try simp only [Nat.reduceMul, Nat.zero_mul, Nat.zero_add, Nat.reduceAdd] at hx5_0); (try rw [show ((0 : Int)).toNat = 0 from rfl] at hf5_0); (try simp only [Nat.reduceMul, Nat.zero_mul, Nat.zero_add, Nat.reduceAdd] at hf5_0); replace p5 := eq_true p5; replace q5 := eq_true q5; have HP9 := R_whole (ys := [1779033703, 3144134277, 1013904242, 2773480762, 1359893119, 2600822924, 528734635, 1541459225]) HO142.out (by have e_ : y140.length = 8 := ae_; have e2_ := (Kd.R_reads' HO142.out).1; first | (rw [e_]; rfl) | (simp only [List.length_cons, List.length_nil]; omega))) | ((with_reducible refine gate_store (t := 140) (p := 3) rfl ?_); refine store_event (t := 140) (p := 3) (v := ?vo_w10) (w1 := (w7.setCells go5 0 (encs (Value.int .u32) [1779033703, 3144134277, 1013904242, 2773480762, 1359893119, 2600822924, 528734635, 1541459225]))) ?hg ?ho ?hn ?hr ?_; (case ho => rfl); (case hg => rfl); (case hn => rfl); (case hr => exact whole_run (ys := [1779033703, 3144134277, 1013904242, 2773480762, 1359893119, 2600822924, 528734635, 1541459225]) rfl rfl rfl (by kernel_rfl) HO142.out (by have e_ : y140.length = 8 := ae_; have e2_ := (Kd.R_reads' HO142.out).1; first | (rw [e_]; rfl) | (simp only [List.length_cons, List.length_nil]; omega))); intro w10 hw; have hg : w7.grownBy w10 (some go5) := (by rw [hw]; exact HP9.2); have hp_ : Kd.R (Kd.int .u32) 140 w10 w.heap.size (fun _ => True) (.slice (some ⟨go5, 0, none⟩) y140.length co5) y143 := (by rw [hw, Ny143.out]; exact HP9.1); clear HP9; replace HB := Aside0.mk ((Below.grown HB.out hg (below_size HB.out) (fun k_ e_ => (Option.some.inj e_) ▸ GB5.out) : Below w.heap.size w w10)); replace HO142 := Aside0.mk (hp_); clear hg hw hp_))
 go_loopg [0] k (fun kq v0 w' => ∃ (x0_1 : ByteArray) (x3_1 : List Int), v0 = .string x0_1 ∧ Aside0 (sha_Sum.l0 kq x0_1 x3_1 (IntKind.u64.wrap ((IntKind.u64.wrap ((a0.size : Int))) * 8)) = some r) ∧ Aside0 (kq ≤ k) ∧ Aside0 (Kd.R (Kd.int .u32) 140 w' w.heap.size (fun _ => True) (.slice (some ⟨go5, 0, none⟩) y140.length co5) x3_1) ∧ Aside0 (Below w.heap.size w w'))
 case atStart => exact ⟨(a0), (y143), vq_, H', ⟨Nat.le_refl _⟩, ⟨mv_ HO142.out⟩, ⟨bl_⟩⟩
 case round =>
  clear H'
  (try clear c1); (try clear p2); (try clear c3); (try clear c3b0); (try clear c3b1); (try clear c4); (try clear c4b0); (try clear c4b1); (try clear p5); (try clear q5); (try clear hx5); (try clear qi5); (try clear hf5); (try clear p6); (try clear c7); (try clear c10); (try clear hx5_0); (try clear p5); (try clear q5)
  obtain ⟨x0_1, x3_1, rfl, HA, HK1, HO_3, HB⟩ := hrel
  have hl3_1 := (Kd.R_reads' HO_3.out).1
  rw [hl3_1] at HO_3
  (try simp only [hl3_1])
  cases gk with
  | zero => exact absurd HA.out (by simp [sha_Sum.l0])
  | succ k1 =>
   have H := HA.out
   clear HA
   simp only [sha_Sum.l0] at H
   by_cases c11 : (x0_1.size : Int) ≥ 64
   ·rw [if_pos c11] at H
    have c11b0 : decide (64 ≤ (x0_1.size : Int)) = true := decide_eq_true c11
    have c11b1 : decide (64 ≤ x0_1.size) = true := decide_eq_true (by omega)
    (try (have c11b7 := c11b0; simp only [hl3_1] at c11b7))
    (try (have c11b8 := c11b1; simp only [hl3_1] at c11b8))
    clear c11
    revert H; refine ne_ fun c12 c12b0 c12b1 => ne_ fun c13 c13b0 c13b1 => oa_ fun t144 A14 H => ?_
    clear c12 c13
    have c15b0 := eq_true (ae_ : 64 ≤ (x0_1.size : Int))
    have H' := Aside0.mk H
    clear H
    go_wp2_with (first | ((with_reducible refine gate_callee (f := 105) rfl ?_); refine gL_ 21 Tryz.func105 #[.pointer (some ⟨go5, 0, none⟩), .string (x0_1.extract 0 64)] ?_; (with_reducible refine (sha_state_block.calls k1 (fun k_ => some k_ = (.slice (some ⟨go5, 0, none⟩) x3_1.length co5 : Value).ownBlock) (.slice (some ⟨go5, 0, none⟩) x3_1.length co5) x3_1 (x0_1.extract 0 64) t144 w _ ?side1 ?side2 ?side3 A14.out).mono ?_); (case side1 => repeat (first | (with_reducible first | exact HB.out | apply lA_ | apply lN_ | apply lD_) | exact HB.out)); (case side2 => exact Kd.R_tight rfl HO_3.out); (case side3 => exact Kd.C_kept_came (Kd.heap_int .u32) HRG.out bl_ (fun k_ hs_ => (fun e_ => Kd.R_base HO_3.out k_ e_.symm) hs_)); rintro e w16 ⟨rfl, hy0, hb, hkp⟩; refine ⟨_, rfl, ?_⟩; replace HB := Aside0.mk (hb); replace HO_3 := Aside0.mk (Kd.R_reok rfl hy0 (fun k_ e_ => HO_3.out.1 k_ e_)); (try clear hb); (try clear hkp); (try clear hy0)))
    (try simp only [← hl3_1])
    go_roundg k1
    case measure => have := HK1.out; omega
    case rel => exact ⟨(x0_1.extract 64 x0_1.size), (t144), vq_, H', ⟨by have := HK1.out; omega⟩, ⟨by (try simp only [hl3_1]); refine mv_ ?_; exact HO_3.out⟩, ⟨bl_⟩⟩
   rw [if_neg c11] at H
   have c11b0 : decide (64 ≤ (x0_1.size : Int)) = false := decide_eq_false c11
   have c11b1 : decide (64 ≤ x0_1.size) = false := decide_eq_false (by omega)
   (try (have c11b7 := c11b0; simp only [hl3_1] at c11b7))
   (try (have c11b8 := c11b1; simp only [hl3_1] at c11b8))
   clear c11
   revert H; refine oy_ fun y145 Ny145 => ne_ fun c17 c17b0 c17b1 => nd_ fun c18 c18b0 => ne_ fun c20 c20b0 c20b1 => oy_ fun y148 Ny148 H => ?_
   have c18b1 : decide (0 < y145.length) = true := decide_eq_true (by omega)
   (try (have c18b7 := c18b0; simp only [hl3_1] at c18b7))
   (try (have c18b8 := c18b1; simp only [hl3_1] at c18b8))
   clear c17 c18 c20
   have HC22 := Aside0.mk H
   clear H
   go_upto_if 27 with (first | ((with_reducible refine gate_dst (N := 5) rfl ?_); refine R_arr (Value.int .u8) (fun _ => rfl) _ 144 ?hg (N := 5) ?hd (List.replicate 128 0) ?hr (Below.refl _ _) (Nat.le_refl _) (by decide) ?_; (case hd => rfl); (case hg => rfl); (case hr => exact gr_); intro v146 w23 ho24 hb hg_ hnew_; clear hg_ hnew_; (first | rw [← Ny145.out] at ho24 | (simp only [Int.reduceToNat] at ho24; rw [← Ny145.out] at ho24)); have HO147 := Aside0.mk (Kd.R_lower ho24 (below_size bl_)); replace HB := Aside0.mk (below_step bl_ hb); replace HO_3 := Aside0.mk (Kd.R_below (mv_ HO_3.out) hb); clear hb ho24; have qa19 : ((0 : Int) < (128 : Int)) = True := eq_true (by have e_ : y145.length = 128 := ae_; have h_ : (0 : Int) < ((y145.length : Int) : Int) := ae_; omega); have p19 : 0 ≤ (0 : Int) := (by omega); have q19 : (0 : Int) < ((y145.length : Int) : Int) := ae_; have qi19 : (0 < y145.length) = True := eq_true (by omega); obtain ⟨go19, co19, eo19, gb19, gl19, cl19, HG19⟩ := Kd.R_form HO147.out (by omega); (first | cases eo19 | (injection eo19 with ea_ en_ ec_; (first | subst ea_ | (injection ea_ with ea_; subst ea_)); subst ec_; clear en_)); have GB19 := Aside0.mk gb19; have GG19 := Aside0.mk HG19; clear gb19 gl19 HG19; obtain ⟨hx19_0, hf19_0⟩ := Kd.R_celln 0 HO147.out (0 : Int) p19 q19; (try rw [show ((0 : Int)).toNat = 0 from rfl] at hx19_0); (try simp only [Nat.reduceMul, Nat.zero_mul, Nat.zero_add, Nat.reduceAdd] at hx19_0); (try rw [show ((0 : Int)).toNat = 0 from rfl] at hf19_0); (try simp only [Nat.reduceMul, Nat.zero_mul, Nat.zero_add, Nat.reduceAdd] at hf19_0); replace p19 := eq_true p19; replace q19 := eq_true q19) | ((with_reducible refine gate_dst (N := 24) rfl ?_); refine aslice_event (P := Tryz.prog) rfl (N := 24) rfl 144 5 128 _ _ rfl rfl Tryz.underlying144 (by go_simp) ?_; have qa21 : ((0 : Int) < (128 : Int)) = True := eq_true (by have e_ : y145.length = 128 := ae_; have h_ : (0 : Int) < ((y145.length : Int) : Int) := ae_; omega); have p21 : 0 ≤ (0 : Int) := (by omega); have q21 : (0 : Int) < ((y145.length : Int) : Int) := ae_; have qi21 : (0 < y145.length) = True := eq_true (by omega); obtain ⟨hx21_0, hf21_0⟩ := Kd.R_celln 0 HO147.out (0 : Int) p21 q21; (try rw [show ((0 : Int)).toNat = 0 from rfl] at hx21_0); (try simp only [Nat.reduceMul, Nat.zero_mul, Nat.zero_add, Nat.reduceAdd] at hx21_0); (try rw [show ((0 : Int)).toNat = 0 from rfl] at hf21_0); (try simp only [Nat.reduceMul, Nat.zero_mul, Nat.zero_add, Nat.reduceAdd] at hf21_0); replace p21 := eq_true p21; replace q21 := eq_true q21) | ((with_reducible refine gate_dst (N := 26) rfl ?_); refine acopy_event (P := Tryz.prog) rfl (N := 26) rfl 39 9 5 _ _ rfl Tryz.underlying39 (by kernel_rfl) rfl x0_1 rfl HO147.out (by have e_ : y145.length = 128 := ae_; have e2_ := (Kd.R_reads' HO147.out).1; omega) (ae_) ?_; intro w27 hp_ hg; have hw := trivial; rw [← Ny148.out] at hp_; replace HB := Aside0.mk ((Below.grown HB.out hg (below_size HB.out) (fun k_ e_ => (Option.some.inj e_) ▸ GB19.out) : Below w.heap.size w w27)); replace HO_3 := Aside0.mk (Kd.R_over' (v := (.slice (some ⟨go19, 0, none⟩) y145.length co19)) (mv_ HO_3.out) (Kd.R_typed HO147.out) (by decide) hg); replace HO147 := Aside0.mk (hp_); clear hg hw hp_))
   (try simp only [Act.put, List.setIfInBounds_toArray, List.set_cons_zero, List.set_cons_succ])
   go_cut [6] (fun v6 wc => ∃ (kq : Nat) (x6_21 : Int), v6 = .int .i64 x6_21 ∧ Aside0 (sha_Sum.j1 kq x0_1 x3_1 (IntKind.u64.wrap ((IntKind.u64.wrap ((a0.size : Int))) * 8)) y148 x6_21 = some r) ∧ Aside0 (kq ≤ k1) ∧ Aside0 (Kd.R (Kd.int .u32) 140 wc w.heap.size (fun _ => True) (.slice (some ⟨go5, 0, none⟩) x3_1.length co5) x3_1) ∧ Aside0 (Kd.R (Kd.int .u8) 144 wc w.heap.size (fun _ => True) (.slice (some ⟨go19, 0, none⟩) y145.length co19) y148) ∧ Aside0 (Below w.heap.size w wc))
   case first =>
    have H := HC22.out
    clear HC22
    by_cases c28 : (x0_1.size : Int) ≥ 56
    ·rw [if_pos c28] at H
     have c28b0 : decide (56 ≤ (x0_1.size : Int)) = true := decide_eq_true c28
     have c28b1 : decide (56 ≤ x0_1.size) = true := decide_eq_true (by omega)
     (try (have c28b7 := c28b0; simp only [hl3_1] at c28b7))
     (try (have c28b8 := c28b1; simp only [hl3_1] at c28b8))
     clear c28
     (first | rw [c28b0] | (simp only [i64_w, i32_w]; rw [c28b0]) | skip)
     have H' := Aside0.mk H
     clear H
     go_wp2
     go_meet
     case rel => exact ⟨_, (128), vq_, H', ⟨by have := HK1.out; first | omega | exact Nat.le_refl _⟩, ⟨by (try simp only [hl3_1]); refine mv_ ?_; exact HO_3.out⟩, ⟨by (try simp only [hl3_1]); refine mv_ ?_; exact HO147.out⟩, ⟨bl_⟩⟩
    rw [if_neg c28] at H
    have c28b0 : decide (56 ≤ (x0_1.size : Int)) = false := decide_eq_false c28
    have c28b1 : decide (56 ≤ x0_1.size) = false := decide_eq_false (by omega)
    (try (have c28b7 := c28b0; simp only [hl3_1] at c28b7))
    (try (have c28b8 := c28b1; simp only [hl3_1] at c28b8))
    clear c28
    (first | rw [c28b0] | (simp only [i64_w, i32_w]; rw [c28b0]) | skip)
    have H' := Aside0.mk H
    clear H
    go_wp2
    go_meet
    case rel => exact ⟨_, (64), vq_, H', ⟨by have := HK1.out; first | omega | exact Nat.le_refl _⟩, ⟨by (try simp only [hl3_1]); refine mv_ ?_; exact HO_3.out⟩, ⟨by (try simp only [hl3_1]); refine mv_ ?_; exact HO147.out⟩, ⟨bl_⟩⟩
   case rest =>
    clear HC22
    (try clear c1); (try clear p1); (try clear q1); (try clear hx1); (try clear qi1); (try clear hf1); (try clear c2); (try clear p2); (try clear q2); (try clear hx2); (try clear qi2); (try clear hf2); (try clear c3); (try clear c3b0); (try clear c3b1); (try clear c4); (try clear c4b0); (try clear c4b1); (try clear p5); (try clear q5); (try clear hx5); (try clear qi5); (try clear hf5); (try clear p6); (try clear c7); (try clear c10); (try clear c11); (try clear c11b0); (try clear c11b1); (try clear c11b7); (try clear c11b8); (try clear c12); (try clear c12b0); (try clear c12b1); (try clear c13); (try clear c13b0); (try clear c13b1); (try clear c15); (try clear c15b0); (try clear c17); (try clear c17b0); (try clear c17b1); (try clear c18); (try clear c18b0); (try clear c18b1); (try clear c18b7); (try clear c18b8); (try clear p19); (try clear q19); (try clear hx19); (try clear qi19); (try clear hf19); (try clear c20); (try clear c20b0); (try clear c20b1); (try clear p21); (try clear q21); (try clear hx21); (try clear qi21); (try clear hf21); (try clear c28); (try clear c28b0); (try clear c28b1); (try clear c28b7); (try clear c28b8); (try clear hx19_0); (try clear hx21_0); (try clear hx5_0); (try clear p19); (try clear p2); (try clear p21); (try clear p5); (try clear p6); (try clear q19); (try clear q21); (try clear q5)
    obtain ⟨kq, x6_21, rfl, HA, HJ21, HO_3, HO_5, HB⟩ := hcut
    have hl5_21 := (Kd.R_reads' HO_5.out).1
    rw [hl5_21] at HO_5
    (try simp only [hl5_21])
    (try simp only [hl5_21] at HO_3)
    cases kq with
    | zero => exact absurd HA.out (by simp [sha_Sum.j1])
    | succ kj21 =>
     have H := HA.out
     clear HA
     simp only [sha_Sum.j1] at H
     revert H; refine ne_ fun c29 c29b0 c29b1 => nd_ fun c30 c30b0 => nd_ fun c31 c31b0 H => ?_
     have c30b1 : decide (0 ≤ x0_1.size) = true := decide_eq_true (by omega)
     (try (have c30b7 := c30b0; simp only [hl3_1, hl5_21] at c30b7))
     (try (have c30b8 := c30b1; simp only [hl3_1, hl5_21] at c30b8))
     have c31b1 : decide (x0_1.size < y148.length) = true := decide_eq_true (Int.ofNat_lt.mp c31)
     (try (have c31b7 := c31b0; simp only [hl3_1, hl5_21] at c31b7))
     (try (have c31b8 := c31b1; simp only [hl3_1, hl5_21] at c31b8))
     clear c29 c30 c31
     generalize e_ : (y148.set ((x0_1.size : Int) : Int).toNat 128 : List Int) = y149 at H
     have Ny149 := Aside0.mk e_.symm
     clear e_
     have H' := Aside0.mk H
     clear H
     have qa32 : (((x0_1.size : Int) : Int) < (128 : Int)) = True := eq_true (by have e_ : y148.length = 128 := ae_; have h_ : ((x0_1.size : Int) : Int) < ((y148.length : Int) : Int) := ae_; omega)
     have p32 : 0 ≤ ((x0_1.size : Int) : Int) := ae_
     have q32 : ((x0_1.size : Int) : Int) < ((y148.length : Int) : Int) := ae_
     obtain ⟨hx32_0, hf32_0⟩ := Kd.R_celln 0 HO_5.out ((x0_1.size : Int) : Int) p32 q32
     (try simp only [Int.toNat_natCast] at hx32_0 hf32_0)
     replace p32 := eq_true p32
     replace q32 := eq_true q32
     have HP33 := Kd.R_putg HO_5.out ((x0_1.size : Int) : Int) 128
     go_wp2_with (first | ((with_reducible refine gate_store (t := 5) (p := 30) rfl ?_); refine store_event (t := 5) (p := 30) (v := ?vo_w34) (w1 := (wc.setCell ⟨go19, ((x0_1.size : Int) : Int).toNat, none⟩ (.int .u8 128))) ?hg ?ho ?hn ?hr ?_; (case ho => rfl); (case hg => rfl); (case hn => rfl); (case hr => exact gr_); intro w34 hw; have hg : wc.grownBy w34 (some go19) := (by rw [hw]; exact HP33.2); have hp_ : Kd.R (Kd.int .u8) 144 w34 w.heap.size (fun _ => True) (.slice (some ⟨go19, 0, none⟩) y148.length co19) y149 := (by rw [hw, Ny149.out]; exact HP33.1); clear HP33; replace HB := Aside0.mk ((by rw [hw]; exact below_set (HB.out) GB19.out : Below w.heap.size w w34)); replace HO_3 := Aside0.mk (Kd.R_over' (v := (.slice (some ⟨go19, 0, none⟩) y148.length co19)) (mv_ HO_3.out) (Kd.R_typed HO_5.out) (by decide) hg); replace HO_5 := Aside0.mk (hp_); clear hg hw hp_))
     go_loopg [31] kj21 (fun kq v31 w' => ∃ (x5_3 : List Int) (x31_3 : Int), v31 = .int .i64 x31_3 ∧ Aside0 (sha_Sum.l1 kq x3_1 (IntKind.u64.wrap ((IntKind.u64.wrap ((a0.size : Int))) * 8)) x5_3 x6_21 x31_3 = some r) ∧ Aside0 (kq ≤ kj21) ∧ Aside0 (Kd.R (Kd.int .u32) 140 w' w.heap.size (fun _ => True) (.slice (some ⟨go5, 0, none⟩) x3_1.length co5) x3_1) ∧ Aside0 (Kd.R (Kd.int .u8) 144 w' w.heap.size (fun _ => True) (.slice (some ⟨go19, 0, none⟩) y148.length co19) x5_3) ∧ Aside0 (Below w.heap.size w w'))
     case atStart => exact ⟨(y149), (0), vq_, H', ⟨Nat.le_refl _⟩, ⟨by (try simp only [hl3_1]); (try simp only [hl5_21]); refine mv_ ?_; exact HO_3.out⟩, ⟨by (try simp only [hl3_1]); (try simp only [hl5_21]); refine mv_ ?_; exact HO_5.out⟩, ⟨bl_⟩⟩
     case round =>
      clear H'
      (try clear c1); (try clear p1); (try clear q1); (try clear hx1); (try clear qi1); (try clear hf1); (try clear c2); (try clear p2); (try clear q2); (try clear hx2); (try clear qi2); (try clear hf2); (try clear c3); (try clear c3b0); (try clear c3b1); (try clear p3); (try clear q3); (try clear hx3); (try clear hf3); (try clear c4); (try clear c4b0); (try clear c4b1); (try clear p5); (try clear q5); (try clear hx5); (try clear qi5); (try clear hf5); (try clear p6); (try clear c7); (try clear c10); (try clear c11); (try clear c11b0); (try clear c11b1); (try clear c11b7); (try clear c11b8); (try clear c12); (try clear c12b0); (try clear c12b1); (try clear c13); (try clear c13b0); (try clear c13b1); (try clear c15); (try clear c15b0); (try clear c17); (try clear c17b0); (try clear c17b1); (try clear c18); (try clear c18b0); (try clear c18b1); (try clear c18b7); (try clear c18b8); (try clear p19); (try clear q19); (try clear hx19); (try clear qi19); (try clear hf19); (try clear c20); (try clear c20b0); (try clear c20b1); (try clear p21); (try clear q21); (try clear hx21); (try clear qi21); (try clear hf21); (try clear c28); (try clear c28b0); (try clear c28b1); (try clear c28b7); (try clear c28b8); (try clear c29); (try clear c29b0); (try clear c29b1); (try clear c30); (try clear c30b0); (try clear c30b1); (try clear c30b7); (try clear c30b8); (try clear c31); (try clear c31b0); (try clear c31b1); (try clear c31b7); (try clear c31b8); (try clear p32); (try clear q32); (try clear hx32); (try clear hf32); (try clear hx19_0); (try clear hx21_0); (try clear hx32_0); (try clear hx5_0); (try clear p1); (try clear p19); (try clear p2); (try clear p21); (try clear p32); (try clear p5); (try clear p6); (try clear q1); (try clear q19); (try clear q2); (try clear q21); (try clear q32); (try clear q5)
      obtain ⟨x5_3, x31_3, rfl, HA, HK3, HO_3, HO_5, HB⟩ := hrel
      have hl5_3 := (Kd.R_reads' HO_5.out).1
      rw [hl5_3] at HO_5
      (try simp only [hl5_3])
      (try simp only [hl5_3] at HO_3)
      cases gk with
      | zero => exact absurd HA.out (by simp [sha_Sum.l1])
      | succ k3 =>
       have H := HA.out
       clear HA
       simp only [sha_Sum.l1] at H
       by_cases c35 : x31_3 < 8
       ·rw [if_pos c35] at H
        have c35b0 : decide (x31_3 < 8) = true := decide_eq_true c35
        (try (have c35b7 := c35b0; simp only [hl3_1, hl5_21, hl5_3] at c35b7))
        clear c35
        generalize hji36 : (wrap64 (8 * x31_3)) = ji36 at H
        have hji36w := (i64_w _).trans hji36
        revert H; refine ne_ fun c37 c37b0 c37b1 H => ?_
        clear c37
        generalize hji38 : (shr .u64 (IntKind.u64.wrap ((IntKind.u64.wrap ((a0.size : Int))) * 8)) (ji36)) = ji38 at H
        (try (have hji38o := hji38; simp only [u64_len (show a0.size ≤ 9223372036854775807 by omega)] at hji38o))
        have hji38_ : ((IntKind.u64.wrap ((IntKind.u64.wrap ((a0.size : Int))) * 8)) / 2 ^ min (ji36).toNat 64) = ji38 := hji38
        have hji38z : (ji36) ≤ 64 → ((IntKind.u64.wrap ((IntKind.u64.wrap ((a0.size : Int))) * 8)) / 2 ^ (ji36).toNat) = ji38 := shr_small hji38
        (try (have hji38n : (0 ≤ (ji36)) = True := eq_true (by omega)))
        revert H; refine ne_ fun c39 c39b0 c39b1 H => ?_
        clear c39
        generalize hji40 : (wrap64 ((wrap64 (x6_21 - 1)) - x31_3)) = ji40 at H
        have hji40w := (i64_w _).trans hji40
        revert H; refine nd_ fun c41 c41b0 => nd_ fun c42 c42b0 H => ?_
        (try (have c41b7 := c41b0; simp only [hl3_1, hl5_21, hl5_3] at c41b7))
        (try (have c42b7 := c42b0; simp only [hl3_1, hl5_21, hl5_3] at c42b7))
        clear c41 c42
        generalize e_ : (x5_3.set ((ji40) : Int).toNat ((ji38) % 256) : List Int) = y150 at H
        have Ny150 := Aside0.mk e_.symm
        clear e_
        have H' := Aside0.mk H
        clear H
        have qa43 : (((ji40) : Int) < (128 : Int)) = True := eq_true (by have e_ : x5_3.length = 128 := ae_; have h_ : ((ji40) : Int) < ((x5_3.length : Int) : Int) := ae_; omega)
        have p43 : 0 ≤ ((ji40) : Int) := ae_
        have q43 : ((ji40) : Int) < ((x5_3.length : Int) : Int) := ae_
        obtain ⟨hx43_0, hf43_0⟩ := Kd.R_celln 0 HO_5.out ((ji40) : Int) p43 q43
        replace p43 := eq_true p43
        replace q43 := eq_true q43
        have HP44 := Kd.R_putg HO_5.out ((ji40) : Int) ((ji38) % 256)
        go_wp2_with (first | ((with_reducible refine gate_store (t := 5) (p := 43) rfl ?_); refine store_event (t := 5) (p := 43) (v := ?vo_w45) (w1 := (wr.setCell ⟨go19, ((ji40) : Int).toNat, none⟩ (.int .u8 ((ji38) % 256)))) ?hg ?ho ?hn ?hr ?_; (case ho => rfl); (case hg => rfl); (case hn => rfl); (case hr => exact gr_); intro w45 hw; have hg : wr.grownBy w45 (some go19) := (by rw [hw]; exact HP44.2); have hp_ : Kd.R (Kd.int .u8) 144 w45 w.heap.size (fun _ => True) (.slice (some ⟨go19, 0, none⟩) x5_3.length co19) y150 := (by rw [hw, Ny150.out]; exact HP44.1); clear HP44; replace HB := Aside0.mk ((by rw [hw]; exact below_set (HB.out) GB19.out : Below w.heap.size w w45)); replace HO_3 := Aside0.mk (Kd.R_over' (v := (.slice (some ⟨go19, 0, none⟩) x5_3.length co19)) (mv_ HO_3.out) (Kd.R_typed HO_5.out) (by decide) hg); replace HO_5 := Aside0.mk (hp_); clear hg hw hp_))
        (try simp only [← hl5_3])
        go_roundg k3
        case measure => have := HK1.out; have := HJ21.out; have := HK3.out; omega
        case rel => exact ⟨(y150), (wrap64 (x31_3 + 1)), vq_, H', ⟨by have := HK1.out; have := HJ21.out; have := HK3.out; omega⟩, ⟨by (try simp only [hl3_1]); (try simp only [hl5_21]); (try simp only [hl5_3]); refine mv_ ?_; exact HO_3.out⟩, ⟨by (try simp only [hl3_1]); (try simp only [hl5_21]); (try simp only [hl5_3]); refine mv_ ?_; exact HO_5.out⟩, ⟨bl_⟩⟩
       rw [if_neg c35] at H
       have c35b0 : decide (x31_3 < 8) = false := decide_eq_false c35
       (try (have c35b7 := c35b0; simp only [hl3_1, hl5_21, hl5_3] at c35b7))
       clear c35
       revert H; refine ne_ fun c46 c46b0 c46b1 => ne_ fun c47 c47b0 c47b1 => ne_ fun c48 c48b0 c48b1 => nd_ fun c49 c49b0 H => ?_
       have c49b1 : decide (0 < x5_3.length) = true := decide_eq_true (by omega)
       (try (have c49b7 := c49b0; simp only [hl3_1, hl5_21, hl5_3] at c49b7))
       (try (have c49b8 := c49b1; simp only [hl3_1, hl5_21, hl5_3] at c49b8))
       clear c46 c47 c48 c49
       have H' := Aside0.mk H
       clear H
       have qa50 : ((0 : Int) < (128 : Int)) = True := eq_true (by have e_ : x5_3.length = 128 := ae_; have h_ : (0 : Int) < ((x5_3.length : Int) : Int) := ae_; omega)
       have p50 : 0 ≤ (0 : Int) := (by omega)
       have q50 : (0 : Int) < ((x5_3.length : Int) : Int) := ae_
       have qi50 : (0 < x5_3.length) = True := eq_true (by omega)
       obtain ⟨hx50_0, hf50_0⟩ := Kd.R_celln 0 HO_5.out (0 : Int) p50 q50
       (try rw [show ((0 : Int)).toNat = 0 from rfl] at hx50_0)
       (try simp only [Nat.reduceMul, Nat.zero_mul, Nat.zero_add, Nat.reduceAdd] at hx50_0)
       (try rw [show ((0 : Int)).toNat = 0 from rfl] at hf50_0)
       (try simp only [Nat.reduceMul, Nat.zero_mul, Nat.zero_add, Nat.reduceAdd] at hf50_0)
       replace p50 := eq_true p50
       replace q50 := eq_true q50
       have p51 : 0 ≤ (x6_21 : Int) := ae_
       have q51 : (x6_21 : Int) ≤ (128 : Int) := ae_
       go_wp2_with (first | ((with_reducible refine gate_dst (N := 46) rfl ?_); refine aslice_to_event (P := Tryz.prog) rfl (N := 46) rfl 144 5 128 _ _ _ rfl rfl (x6_21 : Int) rfl p51 q51 Tryz.underlying144 (by go_simp) ?_; have hm52 : (x6_21 : Int).toNat ≤ x5_3.length := (by have e_ : x5_3.length = 128 := ae_; have e2_ := (Kd.R_reads' HO_5.out).1; first | omega | (have e3_ : (x6_21 : Int) ≤ 128 := ae_; omega))) | ((with_reducible refine gate_dst (N := 47) rfl ?_); refine astr_event (P := Tryz.prog) rfl (N := 47) rfl 39 9 5 _ rfl rfl Tryz.underlying39 Tryz.underlying5 Tryz.underlying9 HO_5.out hm52 ?_))
       go_loopg [8] k3 (fun kq v8 w' => ∃ (x3_4 : List Int) (x8_4 : ByteArray), v8 = .string x8_4 ∧ Aside0 (sha_Sum.l2 kq x3_4 x8_4 = some r) ∧ Aside0 (kq ≤ k3) ∧ Aside0 (Kd.R (Kd.int .u32) 140 w' w.heap.size (fun _ => True) (.slice (some ⟨go5, 0, none⟩) x3_1.length co5) x3_4) ∧ Aside0 (Below w.heap.size w w'))
       case atStart => exact ⟨(x3_1), (strOfNums (x5_3.take (x6_21 : Int).toNat)), vq_, H', ⟨Nat.le_refl _⟩, ⟨by (try simp only [hl3_1]); (try simp only [hl5_21]); (try simp only [hl5_3]); refine mv_ ?_; exact HO_3.out⟩, ⟨bl_⟩⟩
       case round =>
        clear H'
        (try clear c1); (try clear p1); (try clear q1); (try clear hx1); (try clear qi1); (try clear hf1); (try clear c2); (try clear p2); (try clear q2); (try clear hx2); (try clear qi2); (try clear hf2); (try clear c3); (try clear c3b0); (try clear c3b1); (try clear p3); (try clear q3); (try clear hx3); (try clear hf3); (try clear c4); (try clear c4b0); (try clear c4b1); (try clear p4); (try clear q4); (try clear hx4); (try clear hf4); (try clear p5); (try clear q5); (try clear hx5); (try clear qi5); (try clear hf5); (try clear p6); (try clear c7); (try clear c10); (try clear c11); (try clear c11b0); (try clear c11b1); (try clear c11b7); (try clear c11b8); (try clear c12); (try clear c12b0); (try clear c12b1); (try clear c13); (try clear c13b0); (try clear c13b1); (try clear c15); (try clear c15b0); (try clear c17); (try clear c17b0); (try clear c17b1); (try clear c18); (try clear c18b0); (try clear c18b1); (try clear c18b7); (try clear c18b8); (try clear p19); (try clear q19); (try clear hx19); (try clear qi19); (try clear hf19); (try clear c20); (try clear c20b0); (try clear c20b1); (try clear p21); (try clear q21); (try clear hx21); (try clear qi21); (try clear hf21); (try clear c28); (try clear c28b0); (try clear c28b1); (try clear c28b7); (try clear c28b8); (try clear c29); (try clear c29b0); (try clear c29b1); (try clear c30); (try clear c30b0); (try clear c30b1); (try clear c30b7); (try clear c30b8); (try clear c31); (try clear c31b0); (try clear c31b1); (try clear c31b7); (try clear c31b8); (try clear p32); (try clear q32); (try clear hx32); (try clear hf32); (try clear c35); (try clear c35b0); (try clear c35b7); (try clear c37); (try clear c37b0); (try clear c37b1); (try clear c39); (try clear c39b0); (try clear c39b1); (try clear c41); (try clear c41b0); (try clear c41b7); (try clear c42); (try clear c42b0); (try clear c42b7); (try clear p43); (try clear q43); (try clear hx43); (try clear hf43); (try clear c46); (try clear c46b0); (try clear c46b1); (try clear c47); (try clear c47b0); (try clear c47b1); (try clear c48); (try clear c48b0); (try clear c48b1); (try clear c49); (try clear c49b0); (try clear c49b1); (try clear c49b7); (try clear c49b8); (try clear p50); (try clear q50); (try clear hx50); (try clear qi50); (try clear hf50); (try clear p51); (try clear q51); (try clear hx19_0); (try clear hx21_0); (try clear hx32_0); (try clear hx43_0); (try clear hx50_0); (try clear hx5_0); (try clear p1); (try clear p19); (try clear p2); (try clear p21); (try clear p3); (try clear p32); (try clear p43); (try clear p5); (try clear p50); (try clear p51); (try clear p6); (try clear q1); (try clear q19); (try clear q2); (try clear q21); (try clear q3); (try clear q32); (try clear q43); (try clear q5); (try clear q50); (try clear q51)
        obtain ⟨x3_4, x8_4, rfl, HA, HK4, HO_3, HB⟩ := hrel
        have hl3_4 := (Kd.R_reads' HO_3.out).1
        rw [hl3_4] at HO_3
        (try simp only [hl3_4])
        cases gk with
        | zero => exact absurd HA.out (by simp [sha_Sum.l2])
        | succ k4 =>
         have H := HA.out
         clear HA
         simp only [sha_Sum.l2] at H
         by_cases c53 : x8_4.toList = ([] : List UInt8)
         ·rw [if_pos c53] at H
          have c53b0 : (x8_4.toList == ([] : List UInt8)) = true := beq_iff_eq.mpr c53
          have c53b1 : (x8_4.toList != ([] : List UInt8)) = false := bne_eq_false_iff_eq.mpr c53
          (try (have c53b7 := c53b0; simp only [hl3_1, hl5_21, hl5_3, hl3_4] at c53b7))
          (try (have c53b8 := c53b1; simp only [hl3_1, hl5_21, hl5_3, hl3_4] at c53b8))
          clear c53
          generalize e_ : (List.replicate 32 0 : List Int) = y152 at H
          have Ny152 := Aside0.mk e_.symm
          clear e_
          have H' := Aside0.mk H
          clear H
          go_wp2_with (first | ((with_reducible refine gate_dst (N := 9) rfl ?_); refine R_arr (Value.int .u8) (fun _ => rfl) _ 145 ?hg (N := 9) ?hd (List.replicate 32 0) ?hr (Below.refl _ _) (Nat.le_refl _) (by decide) ?_; (case hd => rfl); (case hg => rfl); (case hr => exact gr_); intro v153 w54 ho55 hb hg_ hnew_; clear hg_ hnew_; (first | rw [← Ny152.out] at ho55 | (simp only [Int.reduceToNat] at ho55; rw [← Ny152.out] at ho55)); have HO154 := Aside0.mk (Kd.R_lower ho55 (below_size bl_)); replace HB := Aside0.mk (below_step bl_ hb); replace HO_3 := Aside0.mk (Kd.R_below (mv_ HO_3.out) hb); clear hb ho55))
          go_loopg [55] k4 (fun kq v55 w' => ∃ (x9_5 : List Int) (x55_5 : Int), v55 = .int .i64 x55_5 ∧ Aside0 (sha_Sum.l3 kq x3_4 x9_5 x55_5 = some r) ∧ Aside0 (kq ≤ k4) ∧ Aside0 (Kd.R (Kd.int .u32) 140 w' w.heap.size (fun _ => True) (.slice (some ⟨go5, 0, none⟩) x3_4.length co5) x3_4) ∧ Aside0 (Kd.R (Kd.int .u8) 145 w' w.heap.size (fun _ => True) v153 x9_5) ∧ Aside0 (Below w.heap.size w w'))
          case atStart => exact ⟨(y152), (0), vq_, H', ⟨Nat.le_refl _⟩, ⟨by (try simp only [hl3_1]); (try simp only [hl5_21]); (try simp only [hl5_3]); (try simp only [hl3_4]); refine mv_ ?_; exact HO_3.out⟩, ⟨by (try simp only [hl3_1]); (try simp only [hl5_21]); (try simp only [hl5_3]); (try simp only [hl3_4]); refine mv_ ?_; exact HO154.out⟩, ⟨bl_⟩⟩
          case round =>
           clear H'
           (try clear c1); (try clear p1); (try clear q1); (try clear hx1); (try clear qi1); (try clear hf1); (try clear c2); (try clear p2); (try clear q2); (try clear hx2); (try clear qi2); (try clear hf2); (try clear c3); (try clear c3b0); (try clear c3b1); (try clear p3); (try clear q3); (try clear hx3); (try clear hf3); (try clear c4); (try clear c4b0); (try clear c4b1); (try clear p4); (try clear q4); (try clear hx4); (try clear hf4); (try clear c5); (try clear p5); (try clear q5); (try clear hx5); (try clear qi5); (try clear hf5); (try clear p6); (try clear c7); (try clear c10); (try clear c11); (try clear c11b0); (try clear c11b1); (try clear c11b7); (try clear c11b8); (try clear c12); (try clear c12b0); (try clear c12b1); (try clear c13); (try clear c13b0); (try clear c13b1); (try clear c15); (try clear c15b0); (try clear c17); (try clear c17b0); (try clear c17b1); (try clear c18); (try clear c18b0); (try clear c18b1); (try clear c18b7); (try clear c18b8); (try clear p19); (try clear q19); (try clear hx19); (try clear qi19); (try clear hf19); (try clear c20); (try clear c20b0); (try clear c20b1); (try clear p21); (try clear q21); (try clear hx21); (try clear qi21); (try clear hf21); (try clear c28); (try clear c28b0); (try clear c28b1); (try clear c28b7); (try clear c28b8); (try clear c29); (try clear c29b0); (try clear c29b1); (try clear c30); (try clear c30b0); (try clear c30b1); (try clear c30b7); (try clear c30b8); (try clear c31); (try clear c31b0); (try clear c31b1); (try clear c31b7); (try clear c31b8); (try clear p32); (try clear q32); (try clear hx32); (try clear hf32); (try clear c35); (try clear c35b0); (try clear c35b7); (try clear c37); (try clear c37b0); (try clear c37b1); (try clear c39); (try clear c39b0); (try clear c39b1); (try clear c41); (try clear c41b0); (try clear c41b7); (try clear c42); (try clear c42b0); (try clear c42b7); (try clear p43); (try clear q43); (try clear hx43); (try clear hf43); (try clear c46); (try clear c46b0); (try clear c46b1); (try clear c47); (try clear c47b0); (try clear c47b1); (try clear c48); (try clear c48b0); (try clear c48b1); (try clear c49); (try clear c49b0); (try clear c49b1); (try clear c49b7); (try clear c49b8); (try clear p50); (try clear q50); (try clear hx50); (try clear qi50); (try clear hf50); (try clear p51); (try clear q51); (try clear c53); (try clear c53b0); (try clear c53b1); (try clear c53b7); (try clear c53b8); (try clear hx19_0); (try clear hx21_0); (try clear hx32_0); (try clear hx43_0); (try clear hx50_0); (try clear hx5_0); (try clear p1); (try clear p19); (try clear p2); (try clear p21); (try clear p3); (try clear p32); (try clear p4); (try clear p43); (try clear p5); (try clear p50); (try clear p51); (try clear p6); (try clear q1); (try clear q19); (try clear q2); (try clear q21); (try clear q3); (try clear q32); (try clear q4); (try clear q43); (try clear q5); (try clear q50); (try clear q51)
           obtain ⟨x9_5, x55_5, rfl, HA, HK5, HO_3, HO_9, HB⟩ := hrel
           cases gk with
           | zero => exact absurd HA.out (by simp [sha_Sum.l3])
           | succ k5 =>
            have H := HA.out
            clear HA
            simp only [sha_Sum.l3] at H
            by_cases c56 : x55_5 < 32
            ·rw [if_pos c56] at H
             have c56b0 : decide (x55_5 < 32) = true := decide_eq_true c56
             (try (have c56b7 := c56b0; simp only [hl3_1, hl5_21, hl5_3, hl3_4] at c56b7))
             clear c56
             revert H; refine ne_ fun c57 c57b0 c57b1 H => ?_
             clear c57
             generalize hji58 : (wrap64 (Int.tdiv x55_5 4)) = ji58 at H
             have hji58w := (i64_w _).trans hji58
             revert H; refine nd_ fun c59 c59b0 => nd_ fun c60 c60b0 H => ?_
             (try (have c59b7 := c59b0; simp only [hl3_1, hl5_21, hl5_3, hl3_4] at c59b7))
             (try (have c60b7 := c60b0; simp only [hl3_1, hl5_21, hl5_3, hl3_4] at c60b7))
             clear c59 c60
             generalize hji61 : (wrap64 (24 - (wrap64 (8 * (Int.tmod x55_5 4))))) = ji61 at H
             have hji61w := (i64_w _).trans hji61
             revert H; refine ne_ fun c62 c62b0 c62b1 H => ?_
             clear c62
             generalize hji63 : (shr .u32 (rd x3_4 (ji58)) (ji61)) = ji63 at H
             have hji63_ : ((rd x3_4 (ji58)) / 2 ^ min (ji61).toNat 32) = ji63 := hji63
             have hji63z : (ji61) ≤ 32 → ((rd x3_4 (ji58)) / 2 ^ (ji61).toNat) = ji63 := shr_small hji63
             (try (have hji63n : (0 ≤ (ji61)) = True := eq_true (by omega)))
             revert H; refine ne_ fun c64 c64b0 c64b1 => nd_ fun c65 c65b0 => nd_ fun c66 c66b0 H => ?_
             (try (have c65b7 := c65b0; simp only [hl3_1, hl5_21, hl5_3, hl3_4] at c65b7))
             (try (have c66b7 := c66b0; simp only [hl3_1, hl5_21, hl5_3, hl3_4] at c66b7))
             clear c64 c65 c66
             generalize e_ : (x9_5.set (x55_5 : Int).toNat ((ji63) % 256) : List Int) = y156 at H
             have Ny156 := Aside0.mk e_.symm
             clear e_
             have H' := Aside0.mk H
             clear H
             have qa155 : (((ji58) : Int) < (8 : Int)) = True := eq_true (by have e_ : x3_4.length = 8 := ae_; have h_ : ((ji58) : Int) < ((x3_4.length : Int) : Int) := ae_; omega)
             have p155 : 0 ≤ ((ji58) : Int) := ae_
             have q155 : (ji58) < (x3_4.length : Int) := ae_
             obtain ⟨ad155, e155, hx155_0⟩ := Kd.at_int (Kd.R_reads' HO_3.out).2.2 (ji58) p155 q155
             obtain rfl : (⟨go5, 0, none⟩ : Addr) = ad155 := (by injection e155)
             (first | simp only [add_plain] at hx155_0 | simp only [add_at] at hx155_0 | simp only [Addr.add, Nat.zero_add] at hx155_0 | skip)
             replace p155 := eq_true p155
             replace q155 := eq_true q155
             have qa67 : ((x55_5 : Int) < (32 : Int)) = True := eq_true (by have e_ : x9_5.length = 32 := ae_; have h_ : (x55_5 : Int) < ((x9_5.length : Int) : Int) := ae_; omega)
             have p67 : 0 ≤ (x55_5 : Int) := ae_
             have q67 : (x55_5 : Int) < ((x9_5.length : Int) : Int) := ae_
             obtain ⟨go67, co67, eo67, gb67, gl67, cl67, HG67⟩ := Kd.R_form HO_9.out (by omega)
             (first | cases eo67 | (injection eo67 with ea_ en_ ec_; (first | subst ea_ | (injection ea_ with ea_; subst ea_)); subst ec_; clear en_))
             have GB67 := Aside0.mk gb67
             have GG67 := Aside0.mk HG67
             clear gb67 gl67 HG67
             obtain ⟨hx67_0, hf67_0⟩ := Kd.R_celln 0 HO_9.out (x55_5 : Int) p67 q67
             replace p67 := eq_true p67
             replace q67 := eq_true q67
             have HP68 := Kd.R_putg HO_9.out (x55_5 : Int) ((ji63) % 256)
             go_wp2_with (first | ((with_reducible refine gate_store (t := 5) (p := 69) rfl ?_); refine store_event (t := 5) (p := 69) (v := ?vo_w69) (w1 := (wr.setCell ⟨go67, (x55_5 : Int).toNat, none⟩ (.int .u8 ((ji63) % 256)))) ?hg ?ho ?hn ?hr ?_; (case ho => rfl); (case hg => rfl); (case hn => rfl); (case hr => exact gr_); intro w69 hw; have hg : wr.grownBy w69 (some go67) := (by rw [hw]; exact HP68.2); have hp_ : Kd.R (Kd.int .u8) 145 w69 w.heap.size (fun _ => True) (.slice (some ⟨go67, 0, none⟩) x9_5.length co67) y156 := (by rw [hw, Ny156.out]; exact HP68.1); clear HP68; replace HB := Aside0.mk ((by rw [hw]; exact below_set (HB.out) GB67.out : Below w.heap.size w w69)); replace HO_3 := Aside0.mk (Kd.R_over' (v := (.slice (some ⟨go67, 0, none⟩) x9_5.length co67)) (mv_ HO_3.out) (Kd.R_typed HO_9.out) (by decide) hg); replace HO_9 := Aside0.mk (hp_); clear hg hw hp_))
             go_roundg k5
             case measure => have := HK1.out; have := HJ21.out; have := HK3.out; have := HK4.out; have := HK5.out; omega
             case rel => exact ⟨(y156), (wrap64 (x55_5 + 1)), vq_, H', ⟨by have := HK1.out; have := HJ21.out; have := HK3.out; have := HK4.out; have := HK5.out; omega⟩, ⟨by (try simp only [hl3_1]); (try simp only [hl5_21]); (try simp only [hl5_3]); (try simp only [hl3_4]); refine mv_ ?_; exact HO_3.out⟩, ⟨by (try simp only [hl3_1]); (try simp only [hl5_21]); (try simp only [hl5_3]); (try simp only [hl3_4]); refine mv_ ?_; exact HO_9.out⟩, ⟨bl_⟩⟩
            rw [if_neg c56] at H
            have c56b0 : decide (x55_5 < 32) = false := decide_eq_false c56
            (try (have c56b7 := c56b0; simp only [hl3_1, hl5_21, hl5_3, hl3_4] at c56b7))
            clear c56
            revert H; refine ne_ fun c70 c70b0 c70b1 => nd_ fun c71 c71b0 H => ?_
            have c71b1 : decide (0 < x9_5.length) = true := decide_eq_true (by omega)
            (try (have c71b7 := c71b0; simp only [hl3_1, hl5_21, hl5_3, hl3_4] at c71b7))
            (try (have c71b8 := c71b1; simp only [hl3_1, hl5_21, hl5_3, hl3_4] at c71b8))
            clear c70 c71
            obtain rfl := Option.some.inj H
            have qa72 : ((0 : Int) < (32 : Int)) = True := eq_true (by have e_ : x9_5.length = 32 := ae_; have h_ : (0 : Int) < ((x9_5.length : Int) : Int) := ae_; omega)
            have p72 : 0 ≤ (0 : Int) := (by omega)
            have q72 : (0 : Int) < ((x9_5.length : Int) : Int) := ae_
            have qi72 : (0 < x9_5.length) = True := eq_true (by omega)
            obtain ⟨go72, co72, eo72, gb72, gl72, cl72, HG72⟩ := Kd.R_form HO_9.out (by omega)
            (first | cases eo72 | (injection eo72 with ea_ en_ ec_; (first | subst ea_ | (injection ea_ with ea_; subst ea_)); subst ec_; clear en_))
            have GB72 := Aside0.mk gb72
            have GG72 := Aside0.mk HG72
            clear gb72 gl72 HG72
            obtain ⟨hx72_0, hf72_0⟩ := Kd.R_celln 0 HO_9.out (0 : Int) p72 q72
            (try rw [show ((0 : Int)).toNat = 0 from rfl] at hx72_0)
            (try simp only [Nat.reduceMul, Nat.zero_mul, Nat.zero_add, Nat.reduceAdd] at hx72_0)
            (try rw [show ((0 : Int)).toNat = 0 from rfl] at hf72_0)
            (try simp only [Nat.reduceMul, Nat.zero_mul, Nat.zero_add, Nat.reduceAdd] at hf72_0)
            replace p72 := eq_true p72
            replace q72 := eq_true q72
            go_wp2_with (first | ((with_reducible refine gate_dst (N := 71) rfl ?_); refine aslice_event (P := Tryz.prog) rfl (N := 71) rfl 145 5 32 _ _ rfl rfl Tryz.underlying145 (by go_simp) ?_; have hm74 : 32 ≤ x9_5.length := (by have e_ : x9_5.length = 32 := ae_; have e2_ := (Kd.R_reads' HO_9.out).1; first | omega | (have e3_ : (32 : Int) ≤ 32 := ae_; omega))) | ((with_reducible refine gate_dst (N := 72) rfl ?_); refine astr_event (P := Tryz.prog) rfl (N := 72) rfl 39 9 5 _ rfl rfl Tryz.underlying39 Tryz.underlying5 Tryz.underlying9 HO_9.out hm74 ?_))
            go_ret
            exact ⟨er_, bl_⟩
         rw [if_neg c53] at H
         have c53b0 : (x8_4.toList == ([] : List UInt8)) = false := beq_eq_false_iff_ne.mpr c53
         have c53b1 : (x8_4.toList != ([] : List UInt8)) = true := bne_iff_ne.mpr c53
         (try (have c53b7 := c53b0; simp only [hl3_1, hl5_21, hl5_3, hl3_4] at c53b7))
         (try (have c53b8 := c53b1; simp only [hl3_1, hl5_21, hl5_3, hl3_4] at c53b8))
         revert H; refine ne_ fun c75 c75b0 c75b1 => ne_ fun c76 c76b0 c76b1 => oa_ fun t151 A77 H => ?_
         clear c75 c76
         have c78b0 := eq_true (ae_ : 64 ≤ (x8_4.size : Int))
         have H' := Aside0.mk H
         clear H
         go_wp2_with (first | ((with_reducible refine gate_callee (f := 105) rfl ?_); refine gL_ 54 Tryz.func105 #[.pointer (some ⟨go5, 0, none⟩), .string (x8_4.extract 0 64)] ?_; (with_reducible refine (sha_state_block.calls k4 (fun k_ => some k_ = (.slice (some ⟨go5, 0, none⟩) x3_4.length co5 : Value).ownBlock) (.slice (some ⟨go5, 0, none⟩) x3_4.length co5) x3_4 (x8_4.extract 0 64) t151 w _ ?side1 ?side2 ?side3 A77.out).mono ?_); (case side1 => repeat (first | (with_reducible first | exact HB.out | apply lA_ | apply lN_ | apply lD_) | exact HB.out)); (case side2 => exact Kd.R_tight rfl HO_3.out); (case side3 => exact Kd.C_kept_came (Kd.heap_int .u32) HRG.out bl_ (fun k_ hs_ => (fun e_ => Kd.R_base HO_3.out k_ e_.symm) hs_)); rintro e w79 ⟨rfl, hy0, hb, hkp⟩; refine ⟨_, rfl, ?_⟩; replace HB := Aside0.mk (hb); replace HO_3 := Aside0.mk (Kd.R_reok rfl hy0 (fun k_ e_ => HO_3.out.1 k_ e_)); (try clear hb); (try clear hkp); (try clear hy0)))
         (try simp only [← hl3_4])
         go_roundg k4
         case measure => have := HK1.out; have := HJ21.out; have := HK3.out; have := HK4.out; omega
         case rel => exact ⟨(t151), (x8_4.extract 64 x8_4.size), vq_, H', ⟨by have := HK1.out; have := HJ21.out; have := HK3.out; have := HK4.out; omega⟩, ⟨by (try simp only [hl3_1]); (try simp only [hl5_21]); (try simp only [hl5_3]); (try simp only [hl3_4]); refine mv_ ?_; exact HO_3.out⟩, ⟨bl_⟩⟩

-- NOT PRINTED: function 121 (abi_NoEscape)

-- NOT PRINTED: function 112 (strings_Builder_copyCheck)

-- NOT PRINTED: function 122 (bytealg_MakeNoZero)

-- NOT PRINTED: function 113 (strings_Builder_grow)

-- NOT PRINTED: function 88 (strings_Builder_Grow)

-- NOT PRINTED: function 89 (strings_Builder_WriteString)

-- NOT PRINTED: function 90 (strings_Builder_String)

-- NOT PRINTED: function 106 (strings_Builder_WriteByte)

/-! ### octets_Long: function 107 -/
def octets_Long.f (k : Nat) (a0 : Int) : Option (ByteArray × Bool) := (octets_laid.f k a0 4).bind fun bt157 => (some (bt157.1, bt157.2))
theorem octets_Long.mono : ∀ a0 k, LeO (octets_Long.f k a0) (octets_Long.f (k + 1) a0) := by
 intro a0 k
 unfold octets_Long.f
 repeat' first
  | (with_reducible exact octets_laid.mono _ _ _)
  | (with_reducible exact LeO.refl _)
  | (with_reducible exact LeO.none _)
  | (with_reducible refine LeO.ite ?_ ?_)
  | (with_reducible refine LeO.bind ?_ (fun _ => ?_))
  | exact octets_laid.mono _ _ _
  | exact LeO.none _
  | refine LeO.ite ?_ ?_
  | refine LeO.bind ?_ (fun _ => ?_)
set_option maxHeartbeats 64000000 in
set_option maxRecDepth 100000 in
theorem octets_Long.calls (k : Nat) (a0 : Int) (r1 : ByteArray) (r2 : Bool) (w : World) (h : octets_Long.f k a0 = some (r1, r2)) :
 Calls Tryz.prog 107 #[.int .i64 a0] w fun e w' => e = .returned (.tuple #[.string r1, .bool r2]) ∧ Below w.heap.size w w' := by
 have HB := Aside0.mk (Below.refl w.heap.size w)
 have H : ((octets_laid.f k a0 4).bind fun bt157 => (some (bt157.1, bt157.2))) = some (r1, r2) := h
 clear h
 replace H := ob_ H
 obtain ⟨⟨t157, t158⟩, A20, H⟩ := H
 replace H : (some (t157, t158)) = some (r1, r2) := H
 have A2 := Aside0.mk A20
 clear A20
 simp only [Option.some.injEq, Prod.mk.injEq] at H
 obtain ⟨rfl, rfl⟩ := H
 go_enter Tryz.func107, Tryz.ntmps107
 go_wp2_with (first | ((with_reducible refine gate_callee (f := 80) rfl ?_); refine gL_ 5 Tryz.func80 #[.int .i64 a0, .int .i64 4] ?_; (with_reducible refine (octets_laid.calls k a0 4 t157 t158 _ A2.out).mono ?_); rintro e w3 ⟨rfl, hb⟩; refine ⟨_, rfl, ?_⟩; replace HB := Aside0.mk (below_step bl_ hb); clear hb))
 go_ret2
 exact ⟨er_, bl_⟩

/-! ### sha_Input: function 75 (walked by hand) -/
/-- Texts with their lengths in four bytes, one behind the other. -/
def sha_Input.parts (k : Nat) : List ByteArray → Option (List UInt8)
  | [] => some []
  | s :: l => (octets_Long.f k (s.size : Int)).bind fun n => (sha_Input.parts k l).bind fun r => some ((n.1.toList ++ s.toList) ++ r)
def sha_Input.u8 (x : Int) : UInt8 := UInt8.ofNat (x % 256).toNat
def sha_Input.f (k : Nat) (a0 : Int) (l1 : List ByteArray) : Option ByteArray :=
  (sha_Input.parts k l1).bind fun r => if ([sha_Input.u8 a0] ++ r).length ≤ 140737488355328 then some ⟨([sha_Input.u8 a0] ++ r).toArray⟩ else none
theorem sha_Input.parts_mono : ∀ k l, LeO (sha_Input.parts k l) (sha_Input.parts (k + 1) l)
  | _, [] => LeO.refl _
  | k, s :: l => by
    unfold sha_Input.parts
    exact LeO.bind (octets_Long.mono _ _) fun _ => LeO.bind (sha_Input.parts_mono k l) fun _ => LeO.refl _
theorem sha_Input.mono : ∀ a0 l1 k, LeO (sha_Input.f k a0 l1) (sha_Input.f (k + 1) a0 l1) := by
  intro a0 l1 k
  unfold sha_Input.f
  exact LeO.bind (sha_Input.parts_mono k l1) fun _ => LeO.refl _
theorem sha_Input.wrap_step {n : Nat} {x : Int} (h : (n : Nat) ≤ 9223372036854775807) (h0 : 0 ≤ x) (h1 : x < (n : Int)) : IntKind.i64.wrap (x + 1) = x + 1 := by
  rw [IntKind.wrap_i64]; omega
theorem sha_Input.size_toList (s : ByteArray) : s.toList.length = s.size := by rw [ByteArray.toList_eq, data_length]
theorem sha_Input.drop_rd (l : List ByteArray) (x : Int) (h0 : 0 ≤ x) (h1 : x < (l.length : Int)) : l.drop x.toNat = rdOf ByteArray.empty l x :: l.drop (x + 1).toNat := by
  have hl : x.toNat < l.length := by omega
  have e : (x + 1).toNat = x.toNat + 1 := by omega
  rw [e, List.drop_eq_getElem_cons hl]
  congr 1
  simp [rdOf, List.getD, hl]
set_option maxHeartbeats 8000000 in
set_option maxRecDepth 100000 in
theorem sha_Input.calls (k : Nat) (a0 : Int) (A1 : Option Addr) (c1 : Nat) (l1 : List ByteArray) (r : ByteArray) (w : World) (hr1 : Kd.C Kd.string w A1 l1.length l1) (hc1 : l1.length ≤ c1) (h : sha_Input.f k a0 l1 = some r) :
    Calls Tryz.prog 75 #[.int .i64 a0, .slice A1 l1.length c1] w fun e w' => e = .returned (.string r) ∧ Below w.heap.size w w' := by
  have HR1 := Aside0.mk hr1
  have HC1 := Aside0.mk hc1
  clear hr1 hc1
  unfold sha_Input.f at h
  obtain ⟨rest, hR, h⟩ := Option.bind_eq_some_iff.mp h
  obtain ⟨bs, hbs⟩ : ∃ bs, [sha_Input.u8 a0] ++ rest = bs := ⟨_, rfl⟩
  rw [hbs] at h
  have hbl : bs.length ≤ 140737488355328 := by
    by_cases hh : bs.length ≤ 140737488355328
    · exact hh
    · rw [if_neg hh] at h; cases h
  rw [if_pos hbl] at h
  obtain rfl := Option.some.inj h
  have HL := Aside0.mk hbl
  have HT0 := Aside0.mk hR
  have HBS0 := Aside0.mk hbs
  have HBL := Aside0.mk (show 1 + rest.length = bs.length by rw [← hbs]; simp; omega)
  have hn1 := HR1.out.2.1
  have hrest : rest.length < bs.length := by have := HBL.out; omega
  clear h hbl hR hbs hrest
  go_enter Tryz.func75, Tryz.ntmps75
  go_wp2_with (first | ((with_reducible refine gate_dst (N := 5) rfl ?_); refine Kd.event_run (w1 := w.alloc (.cells #[.pointer none, .slice none 0 0] 124)) (v := .pointer (some ⟨w.heap.size, 0, none⟩)) ?hg ?hr ?_; (case hg => rfl); (case hr => first | (go_simp; done) | (go_simp; rfl))) | (go_at_call 88; (refine (Bld.St.grow w 64 (by decide)).mono ?_); rintro e w3 ⟨rfl, hs⟩; obtain ⟨b, hb_⟩ : ∃ b, b = w.heap.size := ⟨_, rfl⟩; rw [← hb_] at hs; rw [← hb_]; have HS := Aside0.mk hs; have LB := Aside0.mk (show w.heap.size ≤ b by rw [hb_]; exact Nat.le_refl _); clear hs hb_) | (go_at_call 106; (refine (HS.out.byte _ ?s0 ?s1 ?s2).mono ?_); (case s0 => first | omega | (simp only [IntKind.wrap_u8]; omega)); (case s1 => first | omega | (simp only [IntKind.wrap_u8]; omega)); (case s2 => first | (simp; done) | (have := HL.out; have := HBL.out; simp at *; omega)); rintro e w4 ⟨rfl, hs⟩; have n0_ := Aside0.mk hs; clear HS hs; have HS := n0_; clear n0_))
  go_loopg [16] l1.length (fun kq v16 w' => ∃ x : Int, v16 = .int .i64 x ∧ Aside0 (0 ≤ x ∧ x + (kq : Int) = (l1.length : Int)) ∧ Aside0 (∃ acc rest, sha_Input.parts k (l1.drop x.toNat) = some rest ∧ acc ++ rest = bs ∧ Bld.St w b acc w'))
  case atStart => exact ⟨0, (by first | rfl | simp), ⟨by omega⟩, ⟨_, rest, HT0.out, HBS0.out, HS.out⟩⟩
  case round =>
    obtain ⟨x, rfl, HP, HE⟩ := hrel
    clear HS HBL HT0 HBS0
    obtain ⟨acc, rest1, hT, hE, hS⟩ := HE.out
    have HS := Aside0.mk hS
    have hp := HP.out
    cases gk with
    | zero =>
      have hc : decide (x < (l1.length : Int)) = false := decide_eq_false (by omega)
      have hd : l1.drop x.toNat = [] := List.drop_of_length_le (by omega)
      rw [hd] at hT
      have hr0 : rest1 = [] := (Option.some.inj hT).symm
      have HBS := Aside0.mk (show acc = bs by rw [← hE, hr0, List.append_nil])
      clear hT hE hS hd hr0 HE hp HP
      go_wp2_with (first | (go_at_call 90; have n0_ := Aside0.mk (HS.out.cast (show _ = bs from HBS.out)); clear HS; have HS := n0_; clear n0_; (refine HS.out.out.mono ?_); rintro e w7 ⟨rfl, hs⟩; have n0_ := Aside0.mk hs; clear HS hs; have HS := n0_; clear n0_))
      go_ret
      exact ⟨rfl, HS.out.below (Below.refl _ _) LB.out⟩
    | succ k1 =>
      have hc : decide (x < (l1.length : Int)) = true := decide_eq_true (by omega)
      have p0 : (0 ≤ x) = True := eq_true (by omega)
      have q0 : (x < (l1.length : Int)) = True := eq_true (by omega)
      have hw1 := sha_Input.wrap_step (n := l1.length) (x := x) hn1 (by omega) (by omega)
      rw [sha_Input.drop_rd l1 x (by omega) (by omega)] at hT
      unfold sha_Input.parts at hT
      obtain ⟨⟨n, ok⟩, hT1, hT⟩ := Option.bind_eq_some_iff.mp hT
      obtain ⟨rest2, hT2, hT⟩ := Option.bind_eq_some_iff.mp hT
      have hr1 : (n.toList ++ (rdOf ByteArray.empty l1 x).toList) ++ rest2 = rest1 := Option.some.inj hT
      have HT := Aside0.mk hT1
      have HT2 := Aside0.mk hT2
      have HE2 := Aside0.mk (show ((acc ++ n.toList) ++ (rdOf ByteArray.empty l1 x).toList) ++ rest2 = bs by rw [← hE, ← hr1]; simp only [List.append_assoc])
      have HBL := Aside0.mk (show acc.length + n.size + (rdOf ByteArray.empty l1 x).size + rest2.length = bs.length by rw [← HE2.out]; simp [sha_Input.size_toList]; omega)
      obtain ⟨ad, e4_, hx⟩ := Kd.at_string HR1.out x (by omega) (by omega)
      cases e4_
      have hx0 := ((HS.out.below (Below.refl _ _) LB.out).cell (World.block_lt_of_cell? w _ hx)).trans hx
      clear hT hT1 hT2 hE hS hr1 HE hx hp
      go_wp2_with (first | (go_at_call 107; (with_reducible refine (octets_Long.calls k _ n ok _ HT.out).mono ?_); rintro e w5 ⟨rfl, hb⟩; have n0_ := Aside0.mk (HS.out.later hb); clear HS hb; have HS := n0_; clear n0_) | (go_at_call 89; (refine (HS.out.str _ ?s2).mono ?_); (case s2 => have := HL.out; have := HBL.out; (try simp only [List.length_append, sha_Input.size_toList]); omega); rintro e w6 ⟨rfl, hs⟩; have n0_ := Aside0.mk hs; clear HS hs; have HS := n0_; clear n0_))
      go_roundg k1
      case measure => omega
      case rel => exact ⟨x + 1, (by first | rfl | (simp; done) | (simp [*]; done) | (refine congrArg (Value.int _) ?_; rw [hw1])), ⟨by have := HP.out; omega⟩, ⟨_, rest2, HT2.out, HE2.out, HS.out⟩⟩

/-! ### sha_Tag: function 42 -/
def sha_Tag.f (k : Nat) (a0 : Int) (l1 : List ByteArray) : Option (ByteArray) := (sha_Input.f k a0 l1).bind fun t159 => ((sha_Sum.f k t159).bind fun t160 => (some t160))
theorem sha_Tag.mono : ∀ a0 a1 k, LeO (sha_Tag.f k a0 a1) (sha_Tag.f (k + 1) a0 a1) := by
 intro a0 a1 k
 unfold sha_Tag.f
 repeat' first
  | (with_reducible exact sha_Input.mono _ _ _)
  | (with_reducible exact sha_Sum.mono _ _)
  | (with_reducible exact LeO.refl _)
  | (with_reducible exact LeO.none _)
  | (with_reducible refine LeO.ite ?_ ?_)
  | (with_reducible refine LeO.bind ?_ (fun _ => ?_))
  | exact sha_Input.mono _ _ _
  | exact sha_Sum.mono _ _
  | exact LeO.none _
  | refine LeO.ite ?_ ?_
  | refine LeO.bind ?_ (fun _ => ?_)
set_option maxHeartbeats 64000000 in
set_option maxRecDepth 100000 in
theorem sha_Tag.calls (k : Nat) (a0 : Int) (A1 : Option Addr) (c1 : Nat) (l1 : List ByteArray) (r : ByteArray) (w : World) (hr1 : Kd.C Kd.string w A1 l1.length l1) (hc1 : l1.length ≤ c1) (hrG : Kd.C (Kd.int .u32) w (some ⟨0, 0, none⟩) keysL.length keysL) (h : sha_Tag.f k a0 l1 = some r) :
 Calls Tryz.prog 42 #[.int .i64 a0, .slice A1 l1.length c1] w fun e w' => e = .returned (.string r) ∧ Below w.heap.size w w' := by
 have HR1 := Aside0.mk hr1
 have HC1 := Aside0.mk hc1
 clear hr1 hc1
 have HRG := Aside0.mk hrG
 clear hrG
 have HB := Aside0.mk (Below.refl w.heap.size w)
 have H : ((sha_Input.f k a0 l1).bind fun t159 => ((sha_Sum.f k t159).bind fun t160 => (some t160))) = some r := h
 clear h
 revert H; refine oa_ fun t159 A3 => oa_ fun t160 A4 H => ?_
 obtain rfl := Option.some.inj H
 go_enter Tryz.func42, Tryz.ntmps42
 go_wp2_with (first | ((with_reducible refine gate_callee (f := 75) rfl ?_); refine gL_ 7 Tryz.func75 #[.int .i64 a0, .slice A1 l1.length c1] ?_; (with_reducible refine (sha_Input.calls k a0 _ _ l1 t159 _ ?side1 ?side2 A3.out).mono ?_); (case side1 => repeat (first | exact HR1.out | (with_reducible refine Kd.C_alloc ?_ _) | (with_reducible refine Kd.C_drewN ?_ _) | (with_reducible refine Kd.C_drew ?_))); (case side2 => exact HC1.out); rintro e w5 ⟨rfl, hb⟩; refine ⟨_, rfl, ?_⟩; replace HB := Aside0.mk (below_step bl_ hb); clear hb) | ((with_reducible refine gate_callee (f := 74) rfl ?_); refine gL_ 8 Tryz.func74 #[.string t159] ?_; (with_reducible refine (sha_Sum.calls k t159 t160 _ ?side1 A4.out).mono ?_); (case side1 => repeat (first | exact (Kd.C_below HRG.out HB.out) | (with_reducible refine Kd.C_alloc ?_ _) | (with_reducible refine Kd.C_drewN ?_ _) | (with_reducible refine Kd.C_drew ?_))); rintro e w6 ⟨rfl, hb⟩; refine ⟨_, rfl, ?_⟩; replace HB := Aside0.mk (below_step bl_ hb); clear hb))
 go_ret
 exact ⟨er_, bl_⟩

-- NOT PRINTED: function 78 (atomic_LoadInt32)

-- NOT PRINTED: function 46 (atomic_Int32_Load)

-- NOT PRINTED: function 79 (atomic_CompareAndSwapInt32)

-- NOT PRINTED: function 47 (atomic_Int32_CompareAndSwap)

/-! ### wots_Digits: function 72 -/
def wots_Digits.l0 : Nat → List Int → Int → List Int → Int → Int → Option (List Int × Bool)
 | 0, _, _, _, _, _ => none
 | k + 1, x4, x5, x12, x13, x14 => if x14 < x13 then (if 0 ≤ x14 then (if x14 < (x12.length : Int) then ((some (([wrap64 ((rd x12 x14) / 16), wrap64 (Go.bits .and .u8 (rd x12 x14) 15)] : List Int) : List Int)).bind fun y165 => (if x4.length + y165.length < 17592186044416 then (wots_Digits.l0 k (x4 ++ y165) (wrap64 (x5 + (wrap64 ((wrap64 (30 - (wrap64 ((rd x12 x14) / 16)))) - (wrap64 (Go.bits .and .u8 (rd x12 x14) 15)))))) x12 x13 (wrap64 (x14 + 1))) else (none))) else (none)) else (none)) else ((some (([x5 / 256, Go.bits .and .i64 (x5 / 16) 15, Go.bits .and .i64 x5 15] : List Int) : List Int)).bind fun y171 => (if x4.length + y171.length < 17592186044416 then (some ((x4 ++ y171), true)) else (none)))
def wots_Digits.f (k : Nat) (a0 : ByteArray) : Option (List Int × Bool) := if (a0.size : Int) = 32 then (if a0.size ≤ 9223372036854775807 then ((some (bytesOf a0 : List Int)).bind fun y161 => (wots_Digits.l0 k ([] : List Int) 0 y161 (y161.length : Int) 0)) else (none)) else (some (([] : List Int), false))
theorem wots_Digits.mono_l : ∀ k, (∀ y0 y1 y2 y3 y4, LeO (wots_Digits.l0 k y0 y1 y2 y3 y4) (wots_Digits.l0 (k + 1) y0 y1 y2 y3 y4))
 | 0 => fun _ _ _ _ _ r h => by simp [wots_Digits.l0] at h
 | k + 1 => by
  have ih0 := wots_Digits.mono_l k
  ·intro y0 y1 y2 y3 y4
   unfold wots_Digits.l0
   repeat' first
   | (with_reducible exact ih0 _ _ _ _ _)
   | (with_reducible exact LeO.refl _)
   | (with_reducible exact LeO.none _)
   | (with_reducible refine LeO.ite ?_ ?_)
   | (with_reducible refine LeO.bind ?_ (fun _ => ?_))
   | exact ih0 _ _ _ _ _
   | exact LeO.none _
   | refine LeO.ite ?_ ?_
   | refine LeO.bind ?_ (fun _ => ?_)
theorem wots_Digits.mono : ∀ a0 k, LeO (wots_Digits.f k a0) (wots_Digits.f (k + 1) a0) := by
 intro a0 k
 have ih0 := wots_Digits.mono_l k
 unfold wots_Digits.f
 repeat' first
  | (with_reducible exact ih0 _ _ _ _ _)
  | (with_reducible exact LeO.refl _)
  | (with_reducible exact LeO.none _)
  | (with_reducible refine LeO.ite ?_ ?_)
  | (with_reducible refine LeO.bind ?_ (fun _ => ?_))
  | exact ih0 _ _ _ _ _
  | exact LeO.none _
  | refine LeO.ite ?_ ?_
  | refine LeO.bind ?_ (fun _ => ?_)
set_option maxHeartbeats 64000000 in
set_option maxRecDepth 100000 in
theorem wots_Digits.calls (k : Nat) (a0 : ByteArray) (r1 : List Int) (r2 : Bool) (w : World) (h : wots_Digits.f k a0 = some (r1, r2)) :
 Calls Tryz.prog 72 #[.string a0] w fun e w' => ∃ v0_ : Value, e = .returned (.tuple #[v0_, .bool r2]) ∧ Kd.R (Kd.int .i64) 3 w' w.heap.size (fun _ => True) v0_ r1 ∧ Below w.heap.size w w' := by
 have HB := Aside0.mk (Below.refl w.heap.size w)
 have H : (if (a0.size : Int) = 32 then (if a0.size ≤ 9223372036854775807 then ((some (bytesOf a0 : List Int)).bind fun y161 => (wots_Digits.l0 k ([] : List Int) 0 y161 (y161.length : Int) 0)) else (none)) else (some (([] : List Int), false))) = some (r1, r2) := h
 clear h
 by_cases c2 : (a0.size : Int) = 32
 ·rw [if_pos c2] at H
  have c2b0 : ((a0.size : Int) == 32) = true := beq_iff_eq.mpr c2
  have c2b1 : ((a0.size : Int) != 32) = false := bne_eq_false_iff_eq.mpr c2
  clear c2
  revert H; refine ne_ fun c3 c3b0 c3b1 => oy_ fun y161 Ny161 H => ?_
  try have c3b2 : (9223372036854775807 < a0.size) = False := eq_false (Nat.not_lt.2 c3)
  clear c3
  have H' := Aside0.mk H
  clear H
  go_enter Tryz.func72, Tryz.ntmps72
  go_wp2_with (first | ((with_reducible refine gate_dst (N := 12) rfl ?_); refine conv_V_event (P := Tryz.prog) rfl (N := 12) rfl 9 39 5 _ rfl a0 rfl Ny161.out Tryz.underlying9 Tryz.underlying39 Tryz.underlying5 (ae_) ?_; intro v162 w4 hv_ hb; have HO163 := Aside0.mk (Kd.V_lower (Kd.V_mono (ok' := fun k_ => True) hv_ (fun k_ hk_ => trivial)) (below_size bl_)); replace HB := Aside0.mk (below_step bl_ hb); clear hb hv_; obtain ⟨Ao5, co5, eo5⟩ := Kd.V_slice HO163.out; subst eo5))
  go_loopg [4, 5, 14] k (fun kq v4 v5 v14 w' => ∃ (x4_1 : List Int) (x5_1 : Int) (x14_1 : Int), v5 = .int .i64 x5_1 ∧ v14 = .int .i64 x14_1 ∧ Aside0 (wots_Digits.l0 kq x4_1 x5_1 y161 (y161.length : Int) x14_1 = some (r1, r2)) ∧ Aside0 (kq ≤ k) ∧ Aside0 (Kd.R (Kd.int .i64) 3 w' w.heap.size (fun _ => True) v4 x4_1) ∧ Aside0 (Kd.V (Kd.int .u8) 5 w' w.heap.size (fun k_ => some k_ ≠ (v4 : Value).ownBlock) (.slice Ao5 y161.length co5) y161) ∧ Aside0 (Below w.heap.size w w'))
  case atStart => exact ⟨(([] : List Int)), (0), (0), vq_, vq_, H', ⟨Nat.le_refl _⟩, ⟨by first | exact Kd.R_nil _ _ _ _ _ | exact Kd.N_nil _ _ _ _ _ | exact Kd.V_nil _ _ _ _ _ | exact Kd.Q_nil _ _ _ _ _ | exact Kd.S_nil _ _ _ _ _⟩, ⟨by (with_reducible repeat (first | apply Kd.V_alloc | apply Kd.V_drewN | apply Kd.V_drew)); exact Kd.V_mono HO163.out (fun _ hk => (by simp [Value.ownBlock]))⟩, ⟨bl_⟩⟩
  case round =>
   clear H'
   clear c2b0 c2b1 c3b0 c3b1 c3b2
   obtain ⟨x4_1, x5_1, x14_1, rfl, rfl, HA, HK1, HO_4, HO_12, HB⟩ := hrel
   cases gk with
   | zero => exact absurd HA.out (by simp [wots_Digits.l0])
   | succ k1 =>
    have H := HA.out
    clear HA
    simp only [wots_Digits.l0] at H
    by_cases c6 : x14_1 < (y161.length : Int)
    ·rw [if_pos c6] at H
     have c6b0 : decide (x14_1 < (y161.length : Int)) = true := decide_eq_true c6
     clear c6
     revert H; refine nd_ fun c7 c7b0 => nd_ fun c8 c8b0 => oy_ fun y165 Ny165 => nc_ fun c9 H => ?_
     have LMc9 := Aside0.mk c9
     clear c7 c8 c9
     generalize e_ : (x4_1 ++ y165 : List Int) = y168 at H
     have Ny168 := Aside0.mk e_.symm
     clear e_
     have H' := Aside0.mk H
     clear H
     have p164 : 0 ≤ (x14_1 : Int) := ae_
     have q164 : x14_1 < (y161.length : Int) := ae_
     obtain ⟨ad164, e164, hx164_0⟩ := Kd.at_int (Kd.V_reads' HO_12.out).2.2 x14_1 p164 q164
     cases e164
     replace p164 := eq_true p164
     replace q164 := eq_true q164
     go_wp2_with (first | ((with_reducible refine gate_dst (N := 25) rfl ?_); refine Kd.R_lit (Kd.int .i64) _ 3 ?hg (N := 25) ?hd (xs := ([wrap64 ((rd y161 x14_1) / 16), wrap64 (Go.bits .and .u8 (rd y161 x14_1) 15)] : List Int)) (inner := [.int .i64 (wrap64 ((rd y161 x14_1) / 16)), .int .i64 (wrap64 (Go.bits .and .u8 (rd y161 x14_1) 15))]) (ok := fun _ => True) (okp := fun _ => True) ?hr ?hp (fun _ hk => hk) trivial (Below.refl _ _) (Nat.le_refl _) (by simp) ?_; (case hd => rfl); (case hg => rfl); (case hr => exact gr_); (case hp => exact (Reps.one (show Kd.M (Kd.int .i64) _ _ _ (wrap64 ((rd y161 x14_1) / 16)) [.int .i64 (wrap64 ((rd y161 x14_1) / 16))] from rfl) (Reps.one (show Kd.M (Kd.int .i64) _ _ _ (wrap64 (Go.bits .and .u8 (rd y161 x14_1) 15)) [.int .i64 (wrap64 (Go.bits .and .u8 (rd y161 x14_1) 15))] from rfl) (Reps.none _ _)))); intro v166 w10 ho11 hb hg_ hnew_; clear hg_ hnew_; (first | rw [← Ny165.out] at ho11 | (simp only [Int.reduceToNat] at ho11; rw [← Ny165.out] at ho11)); have HO167 := Aside0.mk (Kd.R_lower (Kd.R_new' ho11 (Kd.R_lt (mv_ HO_4.out))) (below_size bl_)); replace HB := Aside0.mk (below_step bl_ hb); replace HO_12 := Aside0.mk (Kd.V_elder' (by (with_reducible repeat (first | apply Kd.V_alloc | apply Kd.V_drewN | apply Kd.V_drew)); exact HO_12.out) (Kd.R_base ho11) hb); replace HO_4 := Aside0.mk (Kd.R_elder' (mv_ HO_4.out) (Kd.R_base ho11) hb); clear hb ho11; obtain ⟨Ao13, co13, eo13⟩ := Kd.R_slice HO167.out; subst eo13) | ((with_reducible refine gate_builtin (b := .append) (xs := #[.tmp 18, .tmp 25]) rfl ?_); at_builtin; refine Kd.R_append_rows (Kd.int .i64) (w0 := w) w.heap.size rfl (.tmp 18) (.tmp 25) 105 3 (.int .i64 0) 8 rfl Tryz.underlying105 info3 rfl (by decide) (by omega) u4 x4_1 y165 _ _ _ (fun k_ => some k_ ≠ (.slice Ao13 y165.length co13 : Value).ownBlock) (fun _ => False) rfl rfl ?aO ?aR (fun _ _ h => h) (fun _ h => h.elim) ?aF ?aB ?aS ?aL ?_; (case aR => repeat (first | exact (Kd.R_reads' HO167.out).2.2 | (with_reducible refine Kd.C_alloc ?_ _) | (with_reducible refine Kd.C_drewN ?_ _) | (with_reducible refine Kd.C_drew ?_))); (case aB => exact bl_); (case aF => exact (fun k_ hk => Kd.fresh' (Kd.R_lt (mv_ HO167.out)) k_ hk)); (case aO => exact (by refine mv_ ?_; exact Kd.R_mono HO_4.out (fun _ hk => hk.2))); (case aS => exact (below_size bl_)); (case aL => have := LMc9.out; omega); intro v169 w12 ho hb hg hat; rw [← Ny168.out] at ho; have HO170 := Aside0.mk (ho); replace HB := Aside0.mk (hb); replace HO167 := Aside0.mk (Kd.R_after (ok := (fun _ => True)) (mv_ HO167.out) hg hat); replace HO_12 := Aside0.mk (Kd.V_afterv (ok := (fun k_ => some k_ ≠ (.slice Ao13 y165.length co13 : Value).ownBlock)) (by (with_reducible repeat (first | apply Kd.V_alloc | apply Kd.V_drewN | apply Kd.V_drew)); exact Kd.V_mono HO_12.out (fun _ hk => ⟨hk.2, hk.1⟩)) hg hat); clear HO_4; clear ho hb hg hat))
     go_roundg k1
     case measure => have := HK1.out; omega
     case rel => exact ⟨(y168), (wrap64 (x5_1 + (wrap64 ((wrap64 (30 - (wrap64 ((rd y161 x14_1) / 16)))) - (wrap64 (Go.bits .and .u8 (rd y161 x14_1) 15)))))), (wrap64 (x14_1 + 1)), vq_, vq_, H', ⟨by have := HK1.out; omega⟩, ⟨by refine mv_ ?_; exact Kd.R_mono HO170.out (fun _ hk => trivial)⟩, ⟨by (with_reducible repeat (first | apply Kd.V_alloc | apply Kd.V_drewN | apply Kd.V_drew)); exact Kd.V_mono HO_12.out (fun _ hk => hk.2)⟩, ⟨bl_⟩⟩
    rw [if_neg c6] at H
    have c6b0 : decide (x14_1 < (y161.length : Int)) = false := decide_eq_false c6
    clear c6
    revert H; refine oy_ fun y171 Ny171 => nc_ fun c14 H => ?_
    have LMc14 := Aside0.mk c14
    clear c14
    generalize e_ : (x4_1 ++ y171 : List Int) = y174 at H
    have Ny174 := Aside0.mk e_.symm
    clear e_
    simp only [Option.some.injEq, Prod.mk.injEq] at H
    obtain ⟨rfl, rfl⟩ := H
    go_wp2_with (first | ((with_reducible refine gate_dst (N := 46) rfl ?_); refine Kd.R_lit (Kd.int .i64) _ 3 ?hg (N := 46) ?hd (xs := ([x5_1 / 256, Go.bits .and .i64 (x5_1 / 16) 15, Go.bits .and .i64 x5_1 15] : List Int)) (inner := [.int .i64 (x5_1 / 256), .int .i64 (Go.bits .and .i64 (x5_1 / 16) 15), .int .i64 (Go.bits .and .i64 x5_1 15)]) (ok := fun _ => True) (okp := fun _ => True) ?hr ?hp (fun _ hk => hk) trivial (Below.refl _ _) (Nat.le_refl _) (by simp) ?_; (case hd => rfl); (case hg => rfl); (case hr => exact gr_); (case hp => exact (Reps.one (show Kd.M (Kd.int .i64) _ _ _ (x5_1 / 256) [.int .i64 (x5_1 / 256)] from rfl) (Reps.one (show Kd.M (Kd.int .i64) _ _ _ (Go.bits .and .i64 (x5_1 / 16) 15) [.int .i64 (Go.bits .and .i64 (x5_1 / 16) 15)] from rfl) (Reps.one (show Kd.M (Kd.int .i64) _ _ _ (Go.bits .and .i64 x5_1 15) [.int .i64 (Go.bits .and .i64 x5_1 15)] from rfl) (Reps.none _ _))))); intro v172 w15 ho16 hb hg_ hnew_; clear hg_ hnew_; (first | rw [← Ny171.out] at ho16 | (simp only [Int.reduceToNat] at ho16; rw [← Ny171.out] at ho16)); have HO173 := Aside0.mk (Kd.R_lower (Kd.R_new' ho16 (Kd.R_lt (mv_ HO_4.out))) (below_size bl_)); replace HB := Aside0.mk (below_step bl_ hb); replace HO_12 := Aside0.mk (Kd.V_elder' (by (with_reducible repeat (first | apply Kd.V_alloc | apply Kd.V_drewN | apply Kd.V_drew)); exact HO_12.out) (Kd.R_base ho16) hb); replace HO_4 := Aside0.mk (Kd.R_elder' (mv_ HO_4.out) (Kd.R_base ho16) hb); clear hb ho16; obtain ⟨Ao18, co18, eo18⟩ := Kd.R_slice HO173.out; subst eo18) | ((with_reducible refine gate_builtin (b := .append) (xs := #[.tmp 38, .tmp 46]) rfl ?_); at_builtin; refine Kd.R_append_rows (Kd.int .i64) (w0 := w) w.heap.size rfl (.tmp 38) (.tmp 46) 105 3 (.int .i64 0) 8 rfl Tryz.underlying105 info3 rfl (by decide) (by omega) u4 x4_1 y171 _ _ _ (fun k_ => some k_ ≠ (.slice Ao18 y171.length co18 : Value).ownBlock) (fun _ => False) rfl rfl ?aO ?aR (fun _ _ h => h) (fun _ h => h.elim) ?aF ?aB ?aS ?aL ?_; (case aR => repeat (first | exact (Kd.R_reads' HO173.out).2.2 | (with_reducible refine Kd.C_alloc ?_ _) | (with_reducible refine Kd.C_drewN ?_ _) | (with_reducible refine Kd.C_drew ?_))); (case aB => exact bl_); (case aF => exact (fun k_ hk => Kd.fresh' (Kd.R_lt (mv_ HO173.out)) k_ hk)); (case aO => exact (by refine mv_ ?_; exact Kd.R_mono HO_4.out (fun _ hk => hk.2))); (case aS => exact (below_size bl_)); (case aL => have := LMc14.out; omega); intro v175 w17 ho hb hg hat; rw [← Ny174.out] at ho; have HO176 := Aside0.mk (ho); replace HB := Aside0.mk (hb); replace HO173 := Aside0.mk (Kd.R_after (ok := (fun _ => True)) (mv_ HO173.out) hg hat); replace HO_12 := Aside0.mk (Kd.V_afterv (ok := (fun k_ => some k_ ≠ (.slice Ao18 y171.length co18 : Value).ownBlock)) (by (with_reducible repeat (first | apply Kd.V_alloc | apply Kd.V_drewN | apply Kd.V_drew)); exact Kd.V_mono HO_12.out (fun _ hk => ⟨hk.2, hk.1⟩)) hg hat); clear HO_4; clear ho hb hg hat))
    go_ret2
    exact ⟨_, er_, by refine mv_ ?_; exact Kd.R_mono HO176.out (fun _ hk => trivial), bl_⟩
 rw [if_neg c2] at H
 have c2b0 : ((a0.size : Int) == 32) = false := beq_eq_false_iff_ne.mpr c2
 have c2b1 : ((a0.size : Int) != 32) = true := bne_iff_ne.mpr c2
 simp only [Option.some.injEq, Prod.mk.injEq] at H
 obtain ⟨rfl, rfl⟩ := H
 go_enter Tryz.func72, Tryz.ntmps72
 go_wp2
 go_ret2
 exact ⟨_, er_, by first | exact Kd.R_nil _ _ _ _ _ | exact Kd.N_nil _ _ _ _ _ | exact Kd.V_nil _ _ _ _ _ | exact Kd.Q_nil _ _ _ _ _ | exact Kd.S_nil _ _ _ _ _, bl_⟩

/-! ### wots_leafs: function 81 -/
def wots_leafs.f (k : Nat) (a0 : Int) : Option (ByteArray × Bool) := (octets_Short.f k a0).bind fun bt177 => (some (bt177.1, bt177.2))
theorem wots_leafs.mono : ∀ a0 k, LeO (wots_leafs.f k a0) (wots_leafs.f (k + 1) a0) := by
 intro a0 k
 unfold wots_leafs.f
 repeat' first
  | (with_reducible exact octets_Short.mono _ _)
  | (with_reducible exact LeO.refl _)
  | (with_reducible exact LeO.none _)
  | (with_reducible refine LeO.ite ?_ ?_)
  | (with_reducible refine LeO.bind ?_ (fun _ => ?_))
  | exact octets_Short.mono _ _
  | exact LeO.none _
  | refine LeO.ite ?_ ?_
  | refine LeO.bind ?_ (fun _ => ?_)
set_option maxHeartbeats 64000000 in
set_option maxRecDepth 100000 in
theorem wots_leafs.calls (k : Nat) (a0 : Int) (r1 : ByteArray) (r2 : Bool) (w : World) (h : wots_leafs.f k a0 = some (r1, r2)) :
 Calls Tryz.prog 81 #[.int .i64 a0] w fun e w' => e = .returned (.tuple #[.string r1, .bool r2]) ∧ Below w.heap.size w w' := by
 have HB := Aside0.mk (Below.refl w.heap.size w)
 have H : ((octets_Short.f k a0).bind fun bt177 => (some (bt177.1, bt177.2))) = some (r1, r2) := h
 clear h
 replace H := ob_ H
 obtain ⟨⟨t177, t178⟩, A20, H⟩ := H
 replace H : (some (t177, t178)) = some (r1, r2) := H
 have A2 := Aside0.mk A20
 clear A20
 simp only [Option.some.injEq, Prod.mk.injEq] at H
 obtain ⟨rfl, rfl⟩ := H
 go_enter Tryz.func81, Tryz.ntmps81
 go_wp2_with (first | ((with_reducible refine gate_callee (f := 48) rfl ?_); refine gL_ 5 Tryz.func48 #[.int .i64 a0] ?_; (with_reducible refine (octets_Short.calls k a0 t177 t178 _ A2.out).mono ?_); rintro e w3 ⟨rfl, hb⟩; refine ⟨_, rfl, ?_⟩; replace HB := Aside0.mk (below_step bl_ hb); (try clear hb); (try clear hb2); (try clear hk); (try clear hi)))
 go_ret2
 exact ⟨er_, bl_⟩

/-! ### octets_Byte: function 76 -/
def octets_Byte.f (k : Nat) (a0 : Int) : Option (ByteArray × Bool) := (octets_laid.f k a0 1).bind fun bt179 => (some (bt179.1, bt179.2))
theorem octets_Byte.mono : ∀ a0 k, LeO (octets_Byte.f k a0) (octets_Byte.f (k + 1) a0) := by
 intro a0 k
 unfold octets_Byte.f
 repeat' first
  | (with_reducible exact octets_laid.mono _ _ _)
  | (with_reducible exact LeO.refl _)
  | (with_reducible exact LeO.none _)
  | (with_reducible refine LeO.ite ?_ ?_)
  | (with_reducible refine LeO.bind ?_ (fun _ => ?_))
  | exact octets_laid.mono _ _ _
  | exact LeO.none _
  | refine LeO.ite ?_ ?_
  | refine LeO.bind ?_ (fun _ => ?_)
set_option maxHeartbeats 64000000 in
set_option maxRecDepth 100000 in
theorem octets_Byte.calls (k : Nat) (a0 : Int) (r1 : ByteArray) (r2 : Bool) (w : World) (h : octets_Byte.f k a0 = some (r1, r2)) :
 Calls Tryz.prog 76 #[.int .i64 a0] w fun e w' => e = .returned (.tuple #[.string r1, .bool r2]) ∧ Below w.heap.size w w' := by
 have HB := Aside0.mk (Below.refl w.heap.size w)
 have H : ((octets_laid.f k a0 1).bind fun bt179 => (some (bt179.1, bt179.2))) = some (r1, r2) := h
 clear h
 replace H := ob_ H
 obtain ⟨⟨t179, t180⟩, A20, H⟩ := H
 replace H : (some (t179, t180)) = some (r1, r2) := H
 have A2 := Aside0.mk A20
 clear A20
 simp only [Option.some.injEq, Prod.mk.injEq] at H
 obtain ⟨rfl, rfl⟩ := H
 go_enter Tryz.func76, Tryz.ntmps76
 go_wp2_with (first | ((with_reducible refine gate_callee (f := 80) rfl ?_); refine gL_ 5 Tryz.func80 #[.int .i64 a0, .int .i64 1] ?_; (with_reducible refine (octets_laid.calls k a0 1 t179 t180 _ A2.out).mono ?_); rintro e w3 ⟨rfl, hb⟩; refine ⟨_, rfl, ?_⟩; replace HB := Aside0.mk (below_step bl_ hb); clear hb))
 go_ret2
 exact ⟨er_, bl_⟩

/-! ### wots_Chain: function 73 -/
def wots_Chain.l0 : Nat → ByteArray → ByteArray → Int → Int → Option (ByteArray)
 | 0, _, _, _, _ => none
 | k + 1, x1, x7, x17, x18 => if x18 < x17 then ((sha_Tag.f k 1 (([x7, x1] : List ByteArray))).bind fun t186 => (wots_Chain.l0 k t186 x7 x17 (wrap64 (x18 + 1)))) else (some x1)
def wots_Chain.f (k : Nat) (a0 : Int) (a1 : ByteArray) (a2 : Int) : Option (ByteArray) := (octets_Byte.f k (Go.bits .and .i64 a0 255)).bind fun bt181 => (wots_Chain.l0 k a1 bt181.1 (mn (mx a2 0) 1000) 0)
theorem wots_Chain.mono_l : ∀ k, (∀ y0 y1 y2 y3, LeO (wots_Chain.l0 k y0 y1 y2 y3) (wots_Chain.l0 (k + 1) y0 y1 y2 y3))
 | 0 => fun _ _ _ _ r h => by simp [wots_Chain.l0] at h
 | k + 1 => by
  have ih0 := wots_Chain.mono_l k
  ·intro y0 y1 y2 y3
   unfold wots_Chain.l0
   repeat' first
   | (with_reducible exact ih0 _ _ _ _)
   | (with_reducible exact octets_Byte.mono _ _)
   | (with_reducible exact sha_Tag.mono _ _ _)
   | (with_reducible exact LeO.refl _)
   | (with_reducible exact LeO.none _)
   | (with_reducible refine LeO.ite ?_ ?_)
   | (with_reducible refine LeO.bind ?_ (fun _ => ?_))
   | exact ih0 _ _ _ _
   | exact octets_Byte.mono _ _
   | exact sha_Tag.mono _ _ _
   | exact LeO.none _
   | refine LeO.ite ?_ ?_
   | refine LeO.bind ?_ (fun _ => ?_)
theorem wots_Chain.mono : ∀ a0 a1 a2 k, LeO (wots_Chain.f k a0 a1 a2) (wots_Chain.f (k + 1) a0 a1 a2) := by
 intro a0 a1 a2 k
 have ih0 := wots_Chain.mono_l k
 unfold wots_Chain.f
 repeat' first
  | (with_reducible exact ih0 _ _ _ _)
  | (with_reducible exact octets_Byte.mono _ _)
  | (with_reducible exact sha_Tag.mono _ _ _)
  | (with_reducible exact LeO.refl _)
  | (with_reducible exact LeO.none _)
  | (with_reducible refine LeO.ite ?_ ?_)
  | (with_reducible refine LeO.bind ?_ (fun _ => ?_))
  | exact ih0 _ _ _ _
  | exact octets_Byte.mono _ _
  | exact sha_Tag.mono _ _ _
  | exact LeO.none _
  | refine LeO.ite ?_ ?_
  | refine LeO.bind ?_ (fun _ => ?_)
set_option maxHeartbeats 64000000 in
set_option maxRecDepth 100000 in
theorem wots_Chain.calls (k : Nat) (a0 : Int) (a1 : ByteArray) (a2 : Int) (r : ByteArray) (w : World) (hrG : Kd.C (Kd.int .u32) w (some ⟨0, 0, none⟩) keysL.length keysL) (h : wots_Chain.f k a0 a1 a2 = some r) :
 Calls Tryz.prog 73 #[.int .i64 a0, .string a1, .int .i64 a2] w fun e w' => e = .returned (.string r) ∧ Below w.heap.size w w' := by
 have HRG := Aside0.mk hrG
 clear hrG
 have HB := Aside0.mk (Below.refl w.heap.size w)
 have H : ((octets_Byte.f k (Go.bits .and .i64 a0 255)).bind fun bt181 => (wots_Chain.l0 k a1 bt181.1 (mn (mx a2 0) 1000) 0)) = some r := h
 clear h
 replace H := ob_ H
 obtain ⟨⟨t181, t182⟩, A40, H⟩ := H
 replace H : (wots_Chain.l0 k a1 t181 (mn (mx a2 0) 1000) 0) = some r := H
 have A4 := Aside0.mk A40
 clear A40
 generalize hji5 : (mx a2 0) = ji5 at H
 (try rw [hji5] at A4)
 (try (have hji5l : 0 ≤ ji5 := by (rw [← hji5]; unfold mx; (repeat' split) <;> omega)))
 (try (have hji5m : 0 ≤ ji5 := by omega))
 have hji5_ : (if a2 < 0 then 0 else a2) = ji5 := hji5
 generalize hji6 : (mn (ji5) 1000) = ji6 at H
 (try rw [hji6] at A4)
 have hji6_ : (if 1000 < (ji5) then 1000 else (ji5)) = ji6 := hji6
 have H' := Aside0.mk H
 clear H
 go_enter Tryz.func73, Tryz.ntmps73
 go_wp2_with (first | ((with_reducible refine gate_callee (f := 76) rfl ?_); refine gL_ 12 Tryz.func76 #[.int .i64 (Go.bits .and .i64 a0 255)] ?_; (with_reducible refine (octets_Byte.calls k (Go.bits .and .i64 a0 255) t181 t182 _ A4.out).mono ?_); rintro e w7 ⟨rfl, hb⟩; refine ⟨_, rfl, ?_⟩; replace HB := Aside0.mk (below_step bl_ hb); (try clear hb); (try clear hb2); (try clear hk); (try clear hi)))
 go_loopg [1, 18] k (fun kq v1 v18 w' => ∃ (x1_1 : ByteArray) (x18_1 : Int), v1 = .string x1_1 ∧ v18 = .int .i64 x18_1 ∧ Aside0 (wots_Chain.l0 kq x1_1 t181 ji6 x18_1 = some r) ∧ Aside0 (kq ≤ k) ∧ Aside0 (Below w.heap.size w w'))
 case atStart => exact ⟨(a1), (0), vq_, vq_, H', ⟨Nat.le_refl _⟩, ⟨bl_⟩⟩
 case round =>
  clear H'
  (try clear p2); (try clear p6); (try clear c7)
  obtain ⟨x1_1, x18_1, rfl, rfl, HA, HK1, HB⟩ := hrel
  cases gk with
  | zero => exact absurd HA.out (by simp [wots_Chain.l0])
  | succ k1 =>
   have H := HA.out
   clear HA
   simp only [wots_Chain.l0] at H
   by_cases c8 : x18_1 < ji6
   ·rw [if_pos c8] at H
    have c8b0 : decide (x18_1 < ji6) = true := decide_eq_true c8
    clear c8
    generalize e_ : (([t181, x1_1] : List ByteArray) : List ByteArray) = y183 at H
    have Ny183 := Aside0.mk e_.symm
    clear e_
    revert H; refine oa_ fun t186 A9 H => ?_
    have H' := Aside0.mk H
    clear H
    go_wp2_with (first | ((with_reducible refine gate_dst (N := 22) rfl ?_); refine Kd.R_lit Kd.string _ 9 ?hg (N := 22) ?hd (xs := ([t181, x1_1] : List ByteArray)) (inner := [.string t181, .string x1_1]) (ok := fun _ => True) (okp := fun _ => True) ?hr ?hp (fun _ hk => hk) trivial (Below.refl _ _) (Nat.le_refl _) (by simp) ?_; (case hd => rfl); (case hg => rfl); (case hr => exact gr_); (case hp => exact (Reps.one (show Kd.M Kd.string _ _ _ t181 [.string t181] from rfl) (Reps.one (show Kd.M Kd.string _ _ _ x1_1 [.string x1_1] from rfl) (Reps.none _ _)))); intro v184 w10 ho11 hb hg_ hnew_; clear hg_ hnew_; (first | rw [← Ny183.out] at ho11 | (simp only [Int.reduceToNat] at ho11; rw [← Ny183.out] at ho11)); have HO185 := Aside0.mk (Kd.R_lower ho11 (below_size bl_)); replace HB := Aside0.mk (below_step bl_ hb); clear hb ho11; obtain ⟨Ao12, co12, eo12⟩ := Kd.R_slice HO185.out; subst eo12) | ((with_reducible refine gate_callee (f := 42) rfl ?_); refine gL_ 23 Tryz.func42 #[.int .i64 1, .slice Ao12 y183.length co12] ?_; (with_reducible refine (sha_Tag.calls k1 1 _ _ y183 t186 _ ?side1 ?side2 ?side3 A9.out).mono ?_); (case side1 => repeat (first | exact (Kd.R_reads' HO185.out).2.2 | (with_reducible refine Kd.C_alloc ?_ _) | (with_reducible refine Kd.C_drewN ?_ _) | (with_reducible refine Kd.C_drew ?_))); (case side2 => exact (Kd.R_reads' HO185.out).2.1); (case side3 => repeat (first | exact (Kd.C_below HRG.out HB.out) | (with_reducible refine Kd.C_alloc ?_ _) | (with_reducible refine Kd.C_drewN ?_ _) | (with_reducible refine Kd.C_drew ?_))); rintro e w13 ⟨rfl, hb⟩; refine ⟨_, rfl, ?_⟩; replace HB := Aside0.mk (below_step bl_ hb); replace HO185 := Aside0.mk (Kd.R_below (mv_ HO185.out) hb); (try clear hb); (try clear hb2); (try clear hk); (try clear hi)))
    go_roundg k1
    case measure => have := HK1.out; omega
    case rel => exact ⟨(t186), (wrap64 (x18_1 + 1)), vq_, vq_, H', ⟨by have := HK1.out; omega⟩, ⟨bl_⟩⟩
   rw [if_neg c8] at H
   have c8b0 : decide (x18_1 < ji6) = false := decide_eq_false c8
   clear c8
   obtain rfl := Option.some.inj H
   go_wp2
   go_ret
   exact ⟨by first | rfl | (simp [errW_none, errW_some] <;> rfl) | (simp only [← hji5, ← hji6]; first | rfl | (simp [errW_none, errW_some] <;> rfl)) | (simp [*, errW_none, errW_some] <;> rfl), bl_⟩

/-! ### wots_Secret: function 108 -/
def wots_Secret.j0 : Nat → ByteArray → Int → ByteArray → Bool → Option (ByteArray × Bool)
 | 0, _, _, _, _ => none
 | k + 1, x0, x2, x8, x26 => if x26 = true then (some ((⟨#[]⟩ : ByteArray), false)) else ((octets_Byte.f k x2).bind fun bt189 => ((sha_Tag.f k 2 (([x0, x8, bt189.1] : List ByteArray))).bind fun t194 => (some (t194, true))))
def wots_Secret.f (k : Nat) (a0 : ByteArray) (a1 : Int) (a2 : Int) : Option (ByteArray × Bool) := (wots_leafs.f k a1).bind fun bt187 => (if bt187.2 = true then (if a2 < 0 then (wots_Secret.j0 k a0 a2 bt187.1 true) else (wots_Secret.j0 k a0 a2 bt187.1 (decide (a2 ≥ 67)))) else (wots_Secret.j0 k a0 a2 bt187.1 true))
theorem wots_Secret.mono_l : ∀ k, (∀ y0 y1 y2 y3, LeO (wots_Secret.j0 k y0 y1 y2 y3) (wots_Secret.j0 (k + 1) y0 y1 y2 y3))
 | 0 => fun _ _ _ _ r h => by simp [wots_Secret.j0] at h
 | k + 1 => by
  have ih0 := wots_Secret.mono_l k
  ·intro y0 y1 y2 y3
   unfold wots_Secret.j0
   repeat' first
   | (with_reducible exact ih0 _ _ _ _)
   | (with_reducible exact octets_Byte.mono _ _)
   | (with_reducible exact sha_Tag.mono _ _ _)
   | (with_reducible exact wots_leafs.mono _ _)
   | (with_reducible exact LeO.refl _)
   | (with_reducible exact LeO.none _)
   | (with_reducible refine LeO.ite ?_ ?_)
   | (with_reducible refine LeO.bind ?_ (fun _ => ?_))
   | exact ih0 _ _ _ _
   | exact octets_Byte.mono _ _
   | exact sha_Tag.mono _ _ _
   | exact wots_leafs.mono _ _
   | exact LeO.none _
   | refine LeO.ite ?_ ?_
   | refine LeO.bind ?_ (fun _ => ?_)
theorem wots_Secret.mono : ∀ a0 a1 a2 k, LeO (wots_Secret.f k a0 a1 a2) (wots_Secret.f (k + 1) a0 a1 a2) := by
 intro a0 a1 a2 k
 have ih0 := wots_Secret.mono_l k
 unfold wots_Secret.f
 repeat' first
  | (with_reducible exact ih0 _ _ _ _)
  | (with_reducible exact octets_Byte.mono _ _)
  | (with_reducible exact sha_Tag.mono _ _ _)
  | (with_reducible exact wots_leafs.mono _ _)
  | (with_reducible exact LeO.refl _)
  | (with_reducible exact LeO.none _)
  | (with_reducible refine LeO.ite ?_ ?_)
  | (with_reducible refine LeO.bind ?_ (fun _ => ?_))
  | exact ih0 _ _ _ _
  | exact octets_Byte.mono _ _
  | exact sha_Tag.mono _ _ _
  | exact wots_leafs.mono _ _
  | exact LeO.none _
  | refine LeO.ite ?_ ?_
  | refine LeO.bind ?_ (fun _ => ?_)
set_option maxHeartbeats 64000000 in
set_option maxRecDepth 100000 in
theorem wots_Secret.calls (k : Nat) (a0 : ByteArray) (a1 : Int) (a2 : Int) (r1 : ByteArray) (r2 : Bool) (w : World) (hrG : Kd.C (Kd.int .u32) w (some ⟨0, 0, none⟩) keysL.length keysL) (h : wots_Secret.f k a0 a1 a2 = some (r1, r2)) :
 Calls Tryz.prog 108 #[.string a0, .int .i64 a1, .int .i64 a2] w fun e w' => e = .returned (.tuple #[.string r1, .bool r2]) ∧ Below w.heap.size w w' := by
 have HRG := Aside0.mk hrG
 clear hrG
 have HB := Aside0.mk (Below.refl w.heap.size w)
 have H : ((wots_leafs.f k a1).bind fun bt187 => (if bt187.2 = true then (if a2 < 0 then (wots_Secret.j0 k a0 a2 bt187.1 true) else (wots_Secret.j0 k a0 a2 bt187.1 (decide (a2 ≥ 67)))) else (wots_Secret.j0 k a0 a2 bt187.1 true))) = some (r1, r2) := h
 clear h
 replace H := ob_ H
 obtain ⟨⟨t187, t188⟩, A40, H⟩ := H
 replace H : (if t188 = true then (if a2 < 0 then (wots_Secret.j0 k a0 a2 t187 true) else (wots_Secret.j0 k a0 a2 t187 (decide (a2 ≥ 67)))) else (wots_Secret.j0 k a0 a2 t187 true)) = some (r1, r2) := H
 have A4 := Aside0.mk A40
 clear A40
 have HC5 := Aside0.mk H
 clear H
 go_enter Tryz.func108, Tryz.ntmps108
 go_upto_region 2 with (first | ((with_reducible refine gate_callee (f := 81) rfl ?_); refine gL_ 14 Tryz.func81 #[.int .i64 a1] ?_; (with_reducible refine (wots_leafs.calls k a1 t187 t188 _ A4.out).mono ?_); rintro e w6 ⟨rfl, hb⟩; refine ⟨_, rfl, ?_⟩; replace HB := Aside0.mk (below_step bl_ hb); (try clear hb); (try clear hb2); (try clear hk); (try clear hi)))
 (try simp only [Act.put, List.setIfInBounds_toArray, List.set_cons_zero, List.set_cons_succ])
 go_cut [26] (fun v26 wc => ∃ (kq : Nat) (x26_4 : Bool), v26 = .bool x26_4 ∧ Aside0 (wots_Secret.j0 kq a0 a2 t187 x26_4 = some (r1, r2)) ∧ Aside0 (kq ≤ k) ∧ Aside0 (Below w.heap.size w wc))
 case first =>
  have H := HC5.out
  clear HC5
  by_cases c7 : t188 = true
  ·subst c7
   have H1 : (if a2 < 0 then (wots_Secret.j0 k a0 a2 t187 true) else (wots_Secret.j0 k a0 a2 t187 (decide (a2 ≥ 67)))) = some (r1, r2) := by rw [if_pos rfl] at H; exact H
   clear H
   have H := H1
   clear H1
   by_cases c8 : a2 < 0
   ·rw [if_pos c8] at H
    have c8b0 : decide (a2 < 0) = true := decide_eq_true c8
    clear c8
    (first | rw [c8b0] | (simp only [i64_w, i32_w]; rw [c8b0]) | skip)
    have H' := Aside0.mk H
    clear H
    go_wp2
    go_meet
    case rel => exact ⟨_, (true), vq_, H', ⟨by first | omega | exact Nat.le_refl _⟩, ⟨bl_⟩⟩
   rw [if_neg c8] at H
   have c8b0 : decide (a2 < 0) = false := decide_eq_false c8
   clear c8
   (first | rw [c8b0] | (simp only [i64_w, i32_w]; rw [c8b0]) | skip)
   have H' := Aside0.mk H
   clear H
   go_wp2
   go_meet
   case rel => exact ⟨_, (decide (a2 ≥ 67)), vq_, H', ⟨by first | omega | exact Nat.le_refl _⟩, ⟨bl_⟩⟩
  replace c7 := Bool.eq_false_iff.mpr c7
  subst c7
  have H1 : (wots_Secret.j0 k a0 a2 t187 true) = some (r1, r2) := by rw [if_neg (show ¬ (false = true) by decide)] at H; exact H
  clear H
  have H := H1
  clear H1
  have H' := Aside0.mk H
  clear H
  go_wp2
  go_meet
  case rel => exact ⟨_, (true), vq_, H', ⟨by first | omega | exact Nat.le_refl _⟩, ⟨bl_⟩⟩
 case rest =>
  clear HC5
  (try clear c1); (try clear p2); (try clear p6); (try clear c7); (try clear c8); (try clear c8b0)
  obtain ⟨kq, x26_4, rfl, HA, HJ4, HB⟩ := hcut
  cases kq with
  | zero => exact absurd HA.out (by simp [wots_Secret.j0])
  | succ kj4 =>
   have H := HA.out
   clear HA
   simp only [wots_Secret.j0] at H
   by_cases c9 : x26_4 = true
   ·subst c9
    have H1 : (some ((⟨#[]⟩ : ByteArray), false)) = some (r1, r2) := by rw [if_pos rfl] at H; exact H
    clear H
    have H := H1
    clear H1
    simp only [Option.some.injEq, Prod.mk.injEq] at H
    obtain ⟨rfl, rfl⟩ := H
    go_wp2
    go_ret2
    exact ⟨er_, bl_⟩
   replace c9 := Bool.eq_false_iff.mpr c9
   subst c9
   have H1 : ((octets_Byte.f kj4 a2).bind fun bt189 => ((sha_Tag.f kj4 2 (([a0, t187, bt189.1] : List ByteArray))).bind fun t194 => (some (t194, true)))) = some (r1, r2) := by rw [if_neg (show ¬ (false = true) by decide)] at H; exact H
   clear H
   have H := H1
   clear H1
   replace H := ob_ H
   obtain ⟨⟨t189, t190⟩, A100, H⟩ := H
   replace H : ((sha_Tag.f kj4 2 (([a0, t187, t189] : List ByteArray))).bind fun t194 => (some (t194, true))) = some (r1, r2) := H
   have A10 := Aside0.mk A100
   clear A100
   generalize e_ : (([a0, t187, t189] : List ByteArray) : List ByteArray) = y191 at H
   have Ny191 := Aside0.mk e_.symm
   clear e_
   revert H; refine oa_ fun t194 A11 H => ?_
   simp only [Option.some.injEq, Prod.mk.injEq] at H
   obtain ⟨rfl, rfl⟩ := H
   go_wp2_with (first | ((with_reducible refine gate_callee (f := 76) rfl ?_); refine gL_ 29 Tryz.func76 #[.int .i64 a2] ?_; (with_reducible refine (octets_Byte.calls kj4 a2 t189 t190 _ A10.out).mono ?_); rintro e w12 ⟨rfl, hb⟩; refine ⟨_, rfl, ?_⟩; replace HB := Aside0.mk (below_step bl_ hb); (try clear hb); (try clear hb2); (try clear hk); (try clear hi)) | ((with_reducible refine gate_dst (N := 35) rfl ?_); refine Kd.R_lit Kd.string _ 9 ?hg (N := 35) ?hd (xs := ([a0, t187, t189] : List ByteArray)) (inner := [.string a0, .string t187, .string t189]) (ok := fun _ => True) (okp := fun _ => True) ?hr ?hp (fun _ hk => hk) trivial (Below.refl _ _) (Nat.le_refl _) (by simp) ?_; (case hd => rfl); (case hg => rfl); (case hr => exact gr_); (case hp => exact (Reps.one (show Kd.M Kd.string _ _ _ a0 [.string a0] from rfl) (Reps.one (show Kd.M Kd.string _ _ _ t187 [.string t187] from rfl) (Reps.one (show Kd.M Kd.string _ _ _ t189 [.string t189] from rfl) (Reps.none _ _))))); intro v192 w13 ho14 hb hg_ hnew_; clear hg_ hnew_; (first | rw [← Ny191.out] at ho14 | (simp only [Int.reduceToNat] at ho14; rw [← Ny191.out] at ho14)); have HO193 := Aside0.mk (Kd.R_lower ho14 (below_size bl_)); replace HB := Aside0.mk (below_step bl_ hb); clear hb ho14; obtain ⟨Ao15, co15, eo15⟩ := Kd.R_slice HO193.out; subst eo15) | ((with_reducible refine gate_callee (f := 42) rfl ?_); refine gL_ 36 Tryz.func42 #[.int .i64 2, .slice Ao15 y191.length co15] ?_; (with_reducible refine (sha_Tag.calls kj4 2 _ _ y191 t194 _ ?side1 ?side2 ?side3 A11.out).mono ?_); (case side1 => repeat (first | exact (Kd.R_reads' HO193.out).2.2 | (with_reducible refine Kd.C_alloc ?_ _) | (with_reducible refine Kd.C_drewN ?_ _) | (with_reducible refine Kd.C_drew ?_))); (case side2 => exact (Kd.R_reads' HO193.out).2.1); (case side3 => repeat (first | exact (Kd.C_below HRG.out HB.out) | (with_reducible refine Kd.C_alloc ?_ _) | (with_reducible refine Kd.C_drewN ?_ _) | (with_reducible refine Kd.C_drew ?_))); rintro e w16 ⟨rfl, hb⟩; refine ⟨_, rfl, ?_⟩; replace HB := Aside0.mk (below_step bl_ hb); replace HO193 := Aside0.mk (Kd.R_below (mv_ HO193.out) hb); (try clear hb); (try clear hb2); (try clear hk); (try clear hi)))
   go_ret2
   exact ⟨er_, bl_⟩

/-! ### wots_values: function 82 -/
def wots_values.l0 : Nat → ByteArray → Int → List Int → List ByteArray → Int → Option (List ByteArray)
 | 0, _, _, _, _, _ => none
 | k + 1, x0, x1, x2, x7, x11 => if x11 < 67 then ((wots_Secret.f k x0 x1 x11).bind fun bt195 => (if 0 ≤ x11 then (if x11 < (x2.length : Int) then ((wots_Chain.f k x11 bt195.1 (rd x2 x11)).bind fun t197 => (if x7.length < 8796093022208 then (wots_values.l0 k x0 x1 x2 (x7 ++ [t197]) (wrap64 (x11 + 1))) else (none))) else (none)) else (none))) else (some x7)
def wots_values.f (k : Nat) (a0 : ByteArray) (a1 : Int) (a2 : List Int) : Option (List ByteArray) := wots_values.l0 k a0 a1 a2 ([] : List ByteArray) 0
theorem wots_values.mono_l : ∀ k, (∀ y0 y1 y2 y3 y4, LeO (wots_values.l0 k y0 y1 y2 y3 y4) (wots_values.l0 (k + 1) y0 y1 y2 y3 y4))
 | 0 => fun _ _ _ _ _ r h => by simp [wots_values.l0] at h
 | k + 1 => by
  have ih0 := wots_values.mono_l k
  ·intro y0 y1 y2 y3 y4
   unfold wots_values.l0
   repeat' first
   | (with_reducible exact ih0 _ _ _ _ _)
   | (with_reducible exact wots_Chain.mono _ _ _ _)
   | (with_reducible exact wots_Secret.mono _ _ _ _)
   | (with_reducible exact LeO.refl _)
   | (with_reducible exact LeO.none _)
   | (with_reducible refine LeO.ite ?_ ?_)
   | (with_reducible refine LeO.bind ?_ (fun _ => ?_))
   | exact ih0 _ _ _ _ _
   | exact wots_Chain.mono _ _ _ _
   | exact wots_Secret.mono _ _ _ _
   | exact LeO.none _
   | refine LeO.ite ?_ ?_
   | refine LeO.bind ?_ (fun _ => ?_)
theorem wots_values.mono : ∀ a0 a1 a2 k, LeO (wots_values.f k a0 a1 a2) (wots_values.f (k + 1) a0 a1 a2) := by
 intro a0 a1 a2 k
 have ih0 := wots_values.mono_l k
 unfold wots_values.f
 repeat' first
  | (with_reducible exact ih0 _ _ _ _ _)
  | (with_reducible exact wots_Chain.mono _ _ _ _)
  | (with_reducible exact wots_Secret.mono _ _ _ _)
  | (with_reducible exact LeO.refl _)
  | (with_reducible exact LeO.none _)
  | (with_reducible refine LeO.ite ?_ ?_)
  | (with_reducible refine LeO.bind ?_ (fun _ => ?_))
  | exact ih0 _ _ _ _ _
  | exact wots_Chain.mono _ _ _ _
  | exact wots_Secret.mono _ _ _ _
  | exact LeO.none _
  | refine LeO.ite ?_ ?_
  | refine LeO.bind ?_ (fun _ => ?_)
set_option maxHeartbeats 64000000 in
set_option maxRecDepth 100000 in
theorem wots_values.calls (k : Nat) (a0 : ByteArray) (a1 : Int) (F2 : Value) (a2 : List Int) (r : List ByteArray) (w : World) (hF2 : FV Tryz.prog w F2 a2) (hrG : Kd.C (Kd.int .u32) w (some ⟨0, 0, none⟩) keysL.length keysL) (h : wots_values.f k a0 a1 a2 = some r) :
 Calls Tryz.prog 82 #[.string a0, .int .i64 a1, F2] w fun e w' => ∃ v0_ : Value, e = .returned (v0_) ∧ Kd.R Kd.string 9 w' w.heap.size (fun _ => True) v0_ r ∧ Below w.heap.size w w' := by
 have HF := Aside0.mk hF2
 clear hF2
 have HRG := Aside0.mk hrG
 clear hrG
 have HB := Aside0.mk (Below.refl w.heap.size w)
 have H : (wots_values.l0 k a0 a1 a2 ([] : List ByteArray) 0) = some r := h
 clear h
 have H' := Aside0.mk H
 clear H
 go_enter Tryz.func82, Tryz.ntmps82
 go_wp2
 go_loopg [7, 11] k (fun kq v7 v11 w' => ∃ (x7_1 : List ByteArray) (x11_1 : Int), v11 = .int .i64 x11_1 ∧ Aside0 (wots_values.l0 kq a0 a1 a2 x7_1 x11_1 = some r) ∧ Aside0 (kq ≤ k) ∧ Aside0 (Kd.R Kd.string 9 w' w.heap.size (fun _ => True) v7 x7_1) ∧ Aside0 (Below w.heap.size w w'))
 case atStart => exact ⟨(([] : List ByteArray)), (0), vq_, H', ⟨Nat.le_refl _⟩, ⟨by first | exact Kd.R_nil _ _ _ _ _ | exact Kd.N_nil _ _ _ _ _ | exact Kd.V_nil _ _ _ _ _ | exact Kd.Q_nil _ _ _ _ _ | exact Kd.S_nil _ _ _ _ _⟩, ⟨bl_⟩⟩
 case round =>
  clear H'
  (try clear p2)
  obtain ⟨x7_1, x11_1, rfl, HA, HK1, HO_7, HB⟩ := hrel
  cases gk with
  | zero => exact absurd HA.out (by simp [wots_values.l0])
  | succ k1 =>
   have H := HA.out
   clear HA
   simp only [wots_values.l0] at H
   by_cases c4 : x11_1 < 67
   ·rw [if_pos c4] at H
    have c4b0 : decide (x11_1 < 67) = true := decide_eq_true c4
    clear c4
    replace H := ob_ H
    obtain ⟨⟨t195, t196⟩, A50, H⟩ := H
    replace H : (if 0 ≤ x11_1 then (if x11_1 < (a2.length : Int) then ((wots_Chain.f k1 x11_1 t195 (rd a2 x11_1)).bind fun t197 => (if x7_1.length < 8796093022208 then (wots_values.l0 k1 a0 a1 a2 (x7_1 ++ [t197]) (wrap64 (x11_1 + 1))) else (none))) else (none)) else (none)) = some r := H
    have A5 := Aside0.mk A50
    clear A50
    revert H; refine nd_ fun c6 c6b0 => nd_ fun c7 c7b0 => oa_ fun t197 A8 => nc_ fun c9 H => ?_
    have LMc9 := Aside0.mk c9
    clear c6 c7 c9
    generalize e_ : (x7_1 ++ [t197] : List ByteArray) = y198 at H
    have Ny198 := Aside0.mk e_.symm
    clear e_
    have H' := Aside0.mk H
    clear H
    go_wp2_with (first | ((with_reducible refine gate_callee (f := 108) rfl ?_); refine gL_ 18 Tryz.func108 #[.string a0, .int .i64 a1, .int .i64 x11_1] ?_; (with_reducible refine (wots_Secret.calls k1 a0 a1 x11_1 t195 t196 _ ?side1 A5.out).mono ?_); (case side1 => repeat (first | exact (Kd.C_below HRG.out HB.out) | (with_reducible refine Kd.C_alloc ?_ _) | (with_reducible refine Kd.C_drewN ?_ _) | (with_reducible refine Kd.C_drew ?_))); rintro e w10 ⟨rfl, hb⟩; refine ⟨_, rfl, ?_⟩; replace HB := Aside0.mk (below_step bl_ hb); replace HO_7 := Aside0.mk (Kd.R_below (mv_ HO_7.out) hb); (try clear hb); (try clear hb2); (try clear hk); (try clear hi); have p11 : 0 ≤ (x11_1 : Int) := ae_; have q11 : (x11_1 : Int) < (a2.length : Int) := ae_) | ((with_reducible refine gate_dst (N := 26) rfl ?_); refine fv_event (P := Tryz.prog) rfl (N := 26) rfl (.tmp 24) (.tmp 25) rfl HF.out rfl rfl p11 q11 bl_ ?_; intro w12 hb; replace HB := Aside0.mk (below_step bl_ hb); replace HO_7 := Aside0.mk (Kd.R_below (mv_ HO_7.out) hb); clear hb p11 q11) | ((with_reducible refine gate_callee (f := 73) rfl ?_); refine gL_ 27 Tryz.func73 #[.int .i64 x11_1, .string t195, .int .i64 (rd a2 x11_1)] ?_; (with_reducible refine (wots_Chain.calls k1 x11_1 t195 (rd a2 x11_1) t197 _ ?side1 A8.out).mono ?_); (case side1 => repeat (first | exact (Kd.C_below HRG.out HB.out) | (with_reducible refine Kd.C_alloc ?_ _) | (with_reducible refine Kd.C_drewN ?_ _) | (with_reducible refine Kd.C_drew ?_))); rintro e w13 ⟨rfl, hb⟩; refine ⟨_, rfl, ?_⟩; replace HB := Aside0.mk (below_step bl_ hb); replace HO_7 := Aside0.mk (Kd.R_below (mv_ HO_7.out) hb); (try clear hb); (try clear hb2); (try clear hk); (try clear hi)) | ((with_reducible refine gate_builtin (b := .append) (xs := #[.tmp 21, .tmp 28]) rfl ?_); at_builtin; refine Kd.R_append Kd.string (w0 := w) w.heap.size rfl (.tmp 21) (.tmp 28) 24 9 (.string ⟨#[]⟩) 16 rfl Tryz.underlying24 info9 rfl (by decide) (by omega) u7 x7_1 t197 [.string t197] (fun _ => True) (fun _ => False) rfl rfl ?aP (fun _ hk => hk.elim) ?aF ?aO ?aB ?aS ?aL ?_; (case aP => exact rfl); (case aB => exact bl_); (case aF => exact (fun _ _ => trivial)); (case aO => exact (mv_ HO_7.out)); (case aS => exact (below_size bl_)); (case aL => have := LMc9.out; omega); intro v199 w14 ho hb hg hat; rw [← Ny198.out] at ho; have HO200 := Aside0.mk (ho); replace HB := Aside0.mk (hb); clear HO_7; clear ho hb hg hat))
    go_roundg k1
    case measure => have := HK1.out; omega
    case rel => exact ⟨(y198), (wrap64 (x11_1 + 1)), vq_, H', ⟨by have := HK1.out; omega⟩, ⟨mv_ HO200.out⟩, ⟨bl_⟩⟩
   rw [if_neg c4] at H
   have c4b0 : decide (x11_1 < 67) = false := decide_eq_false c4
   clear c4
   obtain rfl := Option.some.inj H
   go_wp2
   go_ret
   exact ⟨_, er_, mv_ HO_7.out, bl_⟩

/-! ### wots_Sign: function 49 (walked by hand) -/
def wots_Sign.f (k : Nat) (a0 : ByteArray) (a1 : Int) (a2 : ByteArray) : Option (List ByteArray × Bool) :=
  (wots_leafs.f k a1).bind fun b => (wots_Digits.f k a2).bind fun d => if b.2 = true then (if d.2 = true then ((wots_values.f k a0 a1 d.1).bind fun l => some (l, true)) else (some (([] : List ByteArray), false))) else (some (([] : List ByteArray), false))
theorem wots_Sign.mono : ∀ a0 a1 a2 k, LeO (wots_Sign.f k a0 a1 a2) (wots_Sign.f (k + 1) a0 a1 a2) := by
  intro a0 a1 a2 k
  unfold wots_Sign.f
  exact LeO.bind (wots_leafs.mono _ _) fun _ => LeO.bind (wots_Digits.mono _ _) fun _ => LeO.ite (LeO.ite (LeO.bind (wots_values.mono _ _ _ _) fun _ => LeO.refl _) (LeO.refl _)) (LeO.refl _)
theorem wots_Sign.at_new (w : World) (v : Value) (t : Nat) : (w.alloc (.cells #[v] t)).cell? ⟨w.heap.size, 0, none⟩ = some v := by
  have h := heap_alloc_new w (.cells #[v] t)
  simp only [World.cell?, h]
  rfl
set_option maxHeartbeats 8000000 in
theorem wots_Sign.fv (w : World) (g : Nat) (A1 : Option Addr) (c1 : Nat) (l : List Int) (hg : g < w.heap.size) (hcell : w.cell? ⟨g, 0, none⟩ = some (.slice A1 l.length c1)) (hr : Kd.C (Kd.int .i64) w A1 l.length l) : FV Tryz.prog w (.func (.func 83) #[] #[.pointer (some ⟨g, 0, none⟩)]) l := by
  refine ⟨83, Tryz.f83, #[.pointer (some ⟨g, 0, none⟩)], rfl, Tryz.func83, by kernel_rfl, rfl, fun i W h0 h1 hb => ?_⟩
  show Calls Tryz.prog 83 #[.int .i64 i, .pointer (some ⟨g, 0, none⟩)] W _
  have hcell1 : W.cell? ⟨g, 0, none⟩ = some (.slice A1 l.length c1) := (hb.cell (p := ⟨g, 0, none⟩) hg).trans hcell
  obtain ⟨ad, rfl, hx⟩ := Kd.at_int (Kd.C_below hr hb) i h0 h1
  have hn := (Kd.C_below hr hb).2.1
  have p0 : (0 ≤ i) = True := eq_true h0
  have q0 : (i < (l.length : Int)) = True := eq_true h1
  clear hcell hr hb hg h0 h1
  go_enter Tryz.func83, Tryz.ntmps83
  go_wp2
  go_ret
  exact ⟨rfl, Below.refl _ _⟩
set_option maxHeartbeats 8000000 in
set_option maxRecDepth 100000 in
theorem wots_Sign.calls (k : Nat) (a0 : ByteArray) (a1 : Int) (a2 : ByteArray) (r1 : List ByteArray) (r2 : Bool) (w : World) (hrG : Kd.C (Kd.int .u32) w (some ⟨0, 0, none⟩) keysL.length keysL) (h : wots_Sign.f k a0 a1 a2 = some (r1, r2)) :
    Calls Tryz.prog 49 #[.string a0, .int .i64 a1, .string a2] w fun e w' => ∃ v0_ : Value, e = .returned (.tuple #[v0_, .bool r2]) ∧ Kd.R Kd.string 9 w' w.heap.size (fun _ => True) v0_ r1 ∧ Below w.heap.size w w' := by
  have HRG := Aside0.mk hrG
  clear hrG
  unfold wots_Sign.f at h
  replace h := Option.bind_eq_some_iff.mp h
  obtain ⟨⟨n, ok⟩, hL, h⟩ := h
  replace h := Option.bind_eq_some_iff.mp h
  obtain ⟨⟨l, ok2⟩, hD, h⟩ := h
  have HL := Aside0.mk hL
  have HD := Aside0.mk hD
  clear hL hD
  have hmf : ∀ (fn : Fn) (first cap : Array Value) (w : World), (Instr.makeFunc fn first cap).run Tryz.prog w = .ok (.func fn first cap) w := fun _ _ _ _ => rfl
  cases ok with
  | false =>
    replace h : some (([] : List ByteArray), false) = some (r1, r2) := h
    simp only [Option.some.injEq, Prod.mk.injEq] at h
    obtain ⟨rfl, rfl⟩ := h
    go_enter Tryz.func49, Tryz.ntmps49
    go_wp2_with (first | (go_at_call 81; (with_reducible refine (wots_leafs.calls k _ n false _ HL.out).mono ?_); rintro e w1 ⟨rfl, hb⟩; have HB := Aside0.mk hb; clear hb) | (go_at_call 72; (with_reducible refine (wots_Digits.calls k _ l ok2 _ HD.out).mono ?_); rintro e w2 ⟨v, rfl, ho, hb⟩; have n1_ := Aside0.mk (below_step HB.out hb); clear HB; have HB := n1_; clear n1_; obtain ⟨A1, c1, rfl, hc1, hC1⟩ := Kd.R_reads ho; have HR1 := Aside0.mk hC1; clear hc1 hC1 ho hb))
    go_ret2
    exact ⟨_, rfl, Kd.R_nil _ _ _ _ _, below_alloc HB.out _⟩
  | true =>
    cases ok2 with
    | false =>
      replace h : some (([] : List ByteArray), false) = some (r1, r2) := h
      simp only [Option.some.injEq, Prod.mk.injEq] at h
      obtain ⟨rfl, rfl⟩ := h
      go_enter Tryz.func49, Tryz.ntmps49
      go_wp2_with (first | (go_at_call 81; (with_reducible refine (wots_leafs.calls k _ n true _ HL.out).mono ?_); rintro e w1 ⟨rfl, hb⟩; have HB := Aside0.mk hb; clear hb) | (go_at_call 72; (with_reducible refine (wots_Digits.calls k _ l false _ HD.out).mono ?_); rintro e w2 ⟨v, rfl, ho, hb⟩; have n1_ := Aside0.mk (below_step HB.out hb); clear HB; have HB := n1_; clear n1_; obtain ⟨A1, c1, rfl, hc1, hC1⟩ := Kd.R_reads ho; have HR1 := Aside0.mk hC1; clear hc1 hC1 ho hb))
      go_ret2
      exact ⟨_, rfl, Kd.R_nil _ _ _ _ _, below_alloc HB.out _⟩
    | true =>
      replace h : ((wots_values.f k a0 a1 l).bind fun l => some (l, true)) = some (r1, r2) := h
      replace h := Option.bind_eq_some_iff.mp h
      obtain ⟨l2, hV, h⟩ := h
      simp only [Option.some.injEq, Prod.mk.injEq] at h
      obtain ⟨rfl, rfl⟩ := h
      have HV := Aside0.mk hV
      clear hV
      go_enter Tryz.func49, Tryz.ntmps49
      go_wp2_with (first | (go_at_call 81; (with_reducible refine (wots_leafs.calls k _ n true _ HL.out).mono ?_); rintro e w1 ⟨rfl, hb⟩; have HB := Aside0.mk hb; clear hb) | (go_at_call 72; (with_reducible refine (wots_Digits.calls k _ l true _ HD.out).mono ?_); rintro e w2 ⟨v, rfl, ho, hb⟩; have n1_ := Aside0.mk (below_step HB.out hb); clear HB; have HB := n1_; clear n1_; obtain ⟨A1, c1, rfl, hc1, hC1⟩ := Kd.R_reads ho; have HR1 := Aside0.mk hC1; clear hc1 hC1 ho hb) | (go_at_call 82; (refine (wots_values.calls k a0 a1 _ l l2 _ (wots_Sign.fv (w2.alloc (.cells #[.slice A1 l.length c1] 105)) w2.heap.size A1 c1 l ?s1 ?s2 ?s3) (Kd.C_below HRG.out ?s4) HV.out).mono ?_); (case s1 => simp); (case s2 => exact wots_Sign.at_new w2 _ _); (case s3 => exact Kd.C_below HR1.out (below_alloc (Below.refl _ _) _)); (case s4 => exact below_alloc HB.out _); rintro e w4 ⟨v4, rfl, ho, hb⟩; have n1_ := Aside0.mk (below_step (below_alloc HB.out _) hb); have HO := Aside0.mk (Kd.R_lower ho (below_size (below_alloc HB.out _))); clear HB; have HB := n1_; clear n1_ ho hb))
      go_ret2
      exact ⟨_, rfl, HO.out, HB.out⟩

/-! ### merkle_leaves: function 84 -/
def merkle_leaves.f (a0 : Int) : Option (Bool) := if a0 ≥ 1 then (if a0 ≤ 16 then (some ((Go.bits .and .i64 a0 (wrap64 (a0 - 1))) == 0)) else (some false)) else (some false)
set_option maxHeartbeats 64000000 in
set_option maxRecDepth 100000 in
theorem merkle_leaves.calls (a0 : Int) (r : Bool) (w : World) (h : merkle_leaves.f a0 = some r) :
 Calls Tryz.prog 84 #[.int .i64 a0] w fun e w' => e = .returned (.bool r) ∧ Drawn0 w w' := by
 have H : (if a0 ≥ 1 then (if a0 ≤ 16 then (some ((Go.bits .and .i64 a0 (wrap64 (a0 - 1))) == 0)) else (some false)) else (some false)) = some r := h
 clear h
 by_cases c2 : a0 ≥ 1
 ·rw [if_pos c2] at H
  have c2b0 : decide (1 ≤ a0) = true := decide_eq_true c2
  clear c2
  by_cases c3 : a0 ≤ 16
  ·rw [if_pos c3] at H
   have c3b0 : decide (a0 ≤ 16) = true := decide_eq_true c3
   clear c3
   obtain rfl := Option.some.inj H
   go_enter Tryz.func84, Tryz.ntmps84
   go_wp2
   go_ret
   exact ⟨by first | rfl | (simp; done) | (simp [*]; done) | exact congrArg Value.bool (nonempty_l _) | (refine congrArg (Value.int _) ?_; first | omega | (unfold wrap64; omega)), by repeat (first | exact Drawn0.refl _ | apply Drawn0.step)⟩
  rw [if_neg c3] at H
  have c3b0 : decide (a0 ≤ 16) = false := decide_eq_false c3
  clear c3
  obtain rfl := Option.some.inj H
  go_enter Tryz.func84, Tryz.ntmps84
  go_wp2
  go_ret
  exact ⟨by first | rfl | (simp; done) | (simp [*]; done) | exact congrArg Value.bool (nonempty_l _) | (refine congrArg (Value.int _) ?_; first | omega | (unfold wrap64; omega)), by repeat (first | exact Drawn0.refl _ | apply Drawn0.step)⟩
 rw [if_neg c2] at H
 have c2b0 : decide (1 ≤ a0) = false := decide_eq_false c2
 clear c2
 obtain rfl := Option.some.inj H
 go_enter Tryz.func84, Tryz.ntmps84
 go_wp2
 go_ret
 exact ⟨by first | rfl | (simp; done) | (simp [*]; done) | exact congrArg Value.bool (nonempty_l _) | (refine congrArg (Value.int _) ?_; first | omega | (unfold wrap64; omega)), by repeat (first | exact Drawn0.refl _ | apply Drawn0.step)⟩

/-! ### merkle_root: function 85 -/
def merkle_root.f : Nat → List ByteArray → Option (ByteArray)
 | 0, _ => none
 | k + 1, l0 => if (l0.length : Int) = 1 then (if 0 < (l0.length : Int) then (some (rdOf ByteArray.empty l0 0)) else (none)) else (if 0 ≤ (wrap64 ((l0.length : Int) / 2)) then (if (wrap64 ((l0.length : Int) / 2)) ≤ (l0.length : Int) then ((merkle_root.f k (l0.take ((wrap64 ((l0.length : Int) / 2)) : Int).toNat)).bind fun t203 => ((merkle_root.f k (l0.drop ((wrap64 ((l0.length : Int) / 2)) : Int).toNat)).bind fun t205 => ((sha_Tag.f k 4 (([t203, t205] : List ByteArray))).bind fun t209 => (some t209)))) else (none)) else (none))
theorem merkle_root.mono_l : ∀ k, (∀ y0, LeO (merkle_root.f k y0) (merkle_root.f (k + 1) y0))
 | 0 => fun _ r h => by simp [merkle_root.f] at h
 | k + 1 => by
  have ih0 := merkle_root.mono_l k
  ·intro y0
   unfold merkle_root.f
   repeat' first
   | (with_reducible exact ih0 _)
   | (with_reducible exact sha_Tag.mono _ _ _)
   | (with_reducible exact LeO.refl _)
   | (with_reducible exact LeO.none _)
   | (with_reducible refine LeO.ite ?_ ?_)
   | (with_reducible refine LeO.bind ?_ (fun _ => ?_))
   | exact ih0 _
   | exact sha_Tag.mono _ _ _
   | exact LeO.none _
   | refine LeO.ite ?_ ?_
   | refine LeO.bind ?_ (fun _ => ?_)
theorem merkle_root.mono : ∀ a0 k, LeO (merkle_root.f k a0) (merkle_root.f (k + 1) a0) := by
 intro a0 k
 have ih0 := merkle_root.mono_l k
 exact ih0 a0
def merkle_root.T3 : Bool × List (List Nat × List Nat) := (true, [([], []), ([], []), ([1], [1]), ([2], [2]), ([0, 3], [0, 3]), ([4], [4]), ([], []), ([], []), ([7], [7]), ([8], [8]), ([6, 9], [6, 9]), ([10, 5], [10]), ([5, 11], [5, 11]), ([12, 11], [12]), ([13, 13, 0, 1, 2, 3, 4, 5, 6, 7, 8, 9, 10, 11, 12, 13], [13])])
def merkle_root.B3 : List Nat := [0, 0, 2, 6, 15, 31, 0, 0, 128, 384, 960, 2047, 4095, 8191, 16383]
theorem merkle_root.tab3 : rtab .any (opsOf Tryz.f85 3) = merkle_root.T3 := by kernel_rfl
theorem merkle_root.bits3 : waitsOk merkle_root.T3.2 merkle_root.B3 = true := by kernel_rfl
set_option maxHeartbeats 64000000 in
set_option maxRecDepth 100000 in
theorem merkle_root.calls (k : Nat) : ∀ (A0 : Option Addr) (c0 : Nat) (l0 : List ByteArray) (r : ByteArray) (w : World) (hr0 : Kd.C Kd.string w A0 l0.length l0) (hc0 : l0.length ≤ c0) (hrG : Kd.C (Kd.int .u32) w (some ⟨0, 0, none⟩) keysL.length keysL) (h : merkle_root.f k l0 = some r),
 Calls Tryz.prog 85 #[.slice A0 l0.length c0] w fun e w' => e = .returned (.string r) ∧ Below w.heap.size w w' := by
 induction k using Nat.strongRecOn with
 | _ k ih =>
 intro A0 c0 l0 r w hr0 hc0 hrG h
 cases k with
 | zero => exact absurd h (by simp [merkle_root.f])
 | succ k =>
 simp only [merkle_root.f] at h
 have HR0 := Aside0.mk hr0
 have HC0 := Aside0.mk hc0
 clear hr0 hc0
 have HRG := Aside0.mk hrG
 clear hrG
 have HB := Aside0.mk (Below.refl w.heap.size w)
 have H : (if (l0.length : Int) = 1 then (if 0 < (l0.length : Int) then (some (rdOf ByteArray.empty l0 0)) else (none)) else (if 0 ≤ (wrap64 ((l0.length : Int) / 2)) then (if (wrap64 ((l0.length : Int) / 2)) ≤ (l0.length : Int) then ((merkle_root.f k (l0.take ((wrap64 ((l0.length : Int) / 2)) : Int).toNat)).bind fun t203 => ((merkle_root.f k (l0.drop ((wrap64 ((l0.length : Int) / 2)) : Int).toNat)).bind fun t205 => ((sha_Tag.f k 4 (([t203, t205] : List ByteArray))).bind fun t209 => (some t209)))) else (none)) else (none))) = some r := h
 clear h
 by_cases c2 : (l0.length : Int) = 1
 ·rw [if_pos c2] at H
  have c2b0 : ((l0.length : Int) == 1) = true := beq_iff_eq.mpr c2
  have c2b1 : ((l0.length : Int) != 1) = false := bne_eq_false_iff_eq.mpr c2
  clear c2
  revert H; refine nd_ fun c3 c3b0 H => ?_
  have c3b1 : decide (0 < l0.length) = true := decide_eq_true (by omega)
  clear c3
  obtain rfl := Option.some.inj H
  have p201 : 0 ≤ (0 : Int) := (by omega)
  have q201 : 0 < (l0.length : Int) := ae_
  obtain ⟨ad201, e201, hx201_0⟩ := Kd.at_string HR0.out 0 p201 q201
  cases e201
  have qi201 : (0 < l0.length) = True := eq_true (by omega)
  (try rw [show ((0 : Int)).toNat = 0 from rfl] at hx201_0)
  (try rw [Addr.add_zero'] at hx201_0)
  replace p201 := eq_true p201
  replace q201 := eq_true q201
  go_enter Tryz.func85, Tryz.ntmps85
  go_wp2
  go_ret
  exact ⟨er_, bl_⟩
 rw [if_neg c2] at H
 have c2b0 : ((l0.length : Int) == 1) = false := beq_eq_false_iff_ne.mpr c2
 have c2b1 : ((l0.length : Int) != 1) = true := bne_iff_ne.mpr c2
 generalize hji4 : (wrap64 ((l0.length : Int) / 2)) = ji4 at H
 have hji4w := (i64_w _).trans hji4
 revert H; refine ne_ fun c5 c5b0 c5b1 => ne_ fun c6 c6b0 c6b1 => oa_ fun t203 A7 H => ?_
 clear c5 c6
 have c8b0 := eq_true (ae_ : 0 ≤ (ji4))
 have c9b0 := eq_true (ae_ : (ji4) ≤ (l0.length : Int))
 revert H; refine oa_ fun t205 A10 H => ?_
 generalize e_ : (([t203, t205] : List ByteArray) : List ByteArray) = y206 at H
 have Ny206 := Aside0.mk e_.symm
 clear e_
 revert H; refine oa_ fun t209 A11 H => ?_
 obtain rfl := Option.some.inj H
 go_enter Tryz.func85, Tryz.ntmps85
 try go_wp2
 replace HB := Aside0.mk (below_drew1 HB.out)
 obtain ⟨i013, hi013, _, hsz13, _⟩ := info_parts info9
 obtain ⟨hcut13, hA13, hC13⟩ := print_take_of (P := Tryz.prog) Value.string ⟨#[]⟩ 24 9 .i64 Tryz.underlying24 hi013 hsz13 A0 c0 l0 (ji4) (ae_) (ae_) HC0.out
 have HR202 := Aside0.mk (Kd.C_of_reads (h1 := fun _ => rfl) (hA13 _ (Kd.reads_of_C HR0.out)))
 have HC202 := Aside0.mk hC13
 clear hA13 hC13 hi013 hsz13
 obtain ⟨i014, hi014, _, hsz14, _⟩ := info_parts info9
 obtain ⟨A14, hcut14, hA14, hC14⟩ := print_drop_of (P := Tryz.prog) Value.string ⟨#[]⟩ 24 9 .i64 Tryz.underlying24 hi014 hsz14 A0 c0 l0 (ji4) (ae_) (ae_) HC0.out
 have HR204 := Aside0.mk (Kd.C_of_reads (h1 := fun _ => rfl) (hA14 _ (Kd.reads_of_C HR0.out)))
 have HC204 := Aside0.mk hC14
 clear hA14 hC14 hi014 hsz14
 refine start_ (n := 15) (S := fun w' => True) (ds := []) #[false, false, false, false, false, false, false, false, false, false, false, false, false, false, false] (by kernel_rfl) rfl rfl trivial (fun hHeld => ?_); refine with_tabW merkle_root.tab3 merkle_root.bits3 (fun HT_ HW_ => ?_)
 generalize w.drew = w12 at HB HR202 HR204 hHeld ⊢
 refine runs_ [(0, some 9), (1, some 10), (2, some 11), (3, some 12), (4, some 13), (6, some 15), (7, some 16), (8, some 17), (9, some 18), (10, some 19)] ?_
 iterate 10 (refine pL_ ?_)
 refine runsE_ ?_
 refine one_ (i := 5) (N := some 14) #[true, true, true, true, true, true, true, true, true, true, true, false, false, false, false] rfl rfl (one_of HT_.out (by kernel_rfl)) (by decide) (fun K hK => ?_)
 refine goes_ Tryz.func85 (by kernel_rfl) rfl #[.slice A0 (l0.take ((ji4) : Int).toNat).length c0] (by rfl) rfl rfl (by (try simp only [List.map_toArray, List.map_cons, List.map_nil]); first | done | (rw [show (l0.take ((ji4) : Int).toNat).length = (ji4).toNat from (by rw [List.length_take]; have h_ : ((ji4) : Int) ≤ (l0.length : Int) := ae_; omega)] <;> rfl) | (simp only [hji4]; rfl) | rfl | (simp only [List.length_drop, List.length_take]; rfl)) ?_
 with_reducible refine (ih k (by omega) _ _ (l0.take ((ji4) : Int).toNat) t203 _ ?side1 ?side2 ?side3 A7.out).mono ?_
 (case side1 => repeat (first | exact (Kd.C_below HR202.out HB.out) | (with_reducible refine Kd.C_alloc ?_ _) | (with_reducible refine Kd.C_drewN ?_ _) | (with_reducible refine Kd.C_drew ?_)))
 (case side2 => exact HC202.out)
 (case side3 => repeat (first | exact (Kd.C_below HRG.out HB.out) | (with_reducible refine Kd.C_alloc ?_ _) | (with_reducible refine Kd.C_drewN ?_ _) | (with_reducible refine Kd.C_drew ?_)))
 rintro e w15 ⟨rfl, hb⟩
 refine ⟨_, rfl, ?_⟩
 replace HB := Aside0.mk (below_step bl_ hb)
 (try clear hb)
 (try clear hb2)
 (try clear hk)
 (try clear hi)
 refine hK.out _ _ trivial (fun hHeld => ?_)
 clear hK K
 refine norm_ (a' := ?_) ?_ ?_
 rotate_left
 ·show Act.put _ (some 14) _ = _
  simp only [pr_]
  rfl
 refine one_ (i := 11) (N := some 20) #[true, true, true, true, true, true, true, true, true, true, true, true, false, false, false] rfl rfl (one_of HT_.out (by kernel_rfl)) (by decide) (fun K hK => ?_)
 refine goes_ Tryz.func85 (by kernel_rfl) rfl #[.slice A14 (l0.drop ((ji4) : Int).toNat).length (c0 - (ji4).toNat)] (by rfl) rfl rfl (by (try simp only [List.map_toArray, List.map_cons, List.map_nil]); first | done | (rw [show (l0.drop ((ji4) : Int).toNat).length = (l0.length - (ji4).toNat) from List.length_drop] <;> rfl) | (simp only [hji4]; rfl) | rfl | (simp only [List.length_drop, List.length_take]; rfl)) ?_
 with_reducible refine (ih k (by omega) _ _ (l0.drop ((ji4) : Int).toNat) t205 _ ?side1 ?side2 ?side3 A10.out).mono ?_
 (case side1 => repeat (first | exact (Kd.C_below HR204.out HB.out) | (with_reducible refine Kd.C_alloc ?_ _) | (with_reducible refine Kd.C_drewN ?_ _) | (with_reducible refine Kd.C_drew ?_)))
 (case side2 => exact HC204.out)
 (case side3 => repeat (first | exact (Kd.C_below HRG.out HB.out) | (with_reducible refine Kd.C_alloc ?_ _) | (with_reducible refine Kd.C_drewN ?_ _) | (with_reducible refine Kd.C_drew ?_)))
 rintro e w16 ⟨rfl, hb⟩
 refine ⟨_, rfl, ?_⟩
 replace HB := Aside0.mk (below_step bl_ hb)
 (try clear hb)
 (try clear hb2)
 (try clear hk)
 (try clear hi)
 refine hK.out _ _ trivial (fun hHeld => ?_)
 clear hK K
 refine norm_ (a' := ?_) ?_ ?_
 rotate_left
 ·show Act.put _ (some 20) _ = _
  simp only [pr_]
  rfl
 refine one_ (i := 12) (N := some 21) #[true, true, true, true, true, true, true, true, true, true, true, true, true, false, false] rfl rfl (one_of HT_.out (by kernel_rfl)) (by decide) (fun K hK => ?_)
 refine Kd.R_lit_step Kd.string _ 9 ?hg (N := 21) ?hd (xs := ([t203, t205] : List ByteArray)) (inner := [.string t203, .string t205]) (ok := fun _ => True) (okp := fun _ => True) ?hr ?hp (fun _ hk => hk) trivial (Below.refl _ _) (Nat.le_refl _) (by simp) ?_; (case hd => rfl); (case hg => rfl); (case hr => exact gr_); (case hp => exact (Reps.one (show Kd.M Kd.string _ _ _ t203 [.string t203] from rfl) (Reps.one (show Kd.M Kd.string _ _ _ t205 [.string t205] from rfl) (Reps.none _ _))))
 intro v207 w17 ho18 hb hg_ hnew_
 clear hg_ hnew_
 (first | rw [← Ny206.out] at ho18 | (simp only [Int.reduceToNat] at ho18; rw [← Ny206.out] at ho18))
 have HO208 := Aside0.mk (Kd.R_lower ho18 (below_size bl_))
 replace HB := Aside0.mk (below_step bl_ hb)
 clear hb ho18
 obtain ⟨Ao19, co19, eo19⟩ := Kd.R_slice HO208.out
 (first | subst eo19 | (injection eo19 with f1_ f2_ f3_; have f4_ := f1_.symm; have f5_ := f3_.symm; clear f1_ f2_ f3_; subst f4_; subst f5_))
 refine hK.out _ _ trivial (fun hHeld => ?_)
 clear hK K
 refine norm_ (a' := ?_) ?_ ?_
 rotate_left
 ·show Act.put _ (some 21) _ = _
  simp only [pr_]
  rfl
 refine one_ (i := 13) (N := some 22) #[true, true, true, true, true, true, true, true, true, true, true, true, true, true, false] rfl rfl (one_of HT_.out (by kernel_rfl)) (by decide) (fun K hK => ?_)
 refine goes_ Tryz.func42 (by kernel_rfl) rfl #[.int .i64 4, .slice Ao19 y206.length co19] (by rfl) rfl rfl gm1_ ?_
 with_reducible refine (sha_Tag.calls k 4 _ _ y206 t209 _ ?side1 ?side2 ?side3 A11.out).mono ?_
 (case side1 => repeat (first | exact (Kd.R_reads' HO208.out).2.2 | (with_reducible refine Kd.C_alloc ?_ _) | (with_reducible refine Kd.C_drewN ?_ _) | (with_reducible refine Kd.C_drew ?_)))
 (case side2 => exact (Kd.R_reads' HO208.out).2.1)
 (case side3 => repeat (first | exact (Kd.C_below HRG.out HB.out) | (with_reducible refine Kd.C_alloc ?_ _) | (with_reducible refine Kd.C_drewN ?_ _) | (with_reducible refine Kd.C_drew ?_)))
 rintro e w20 ⟨rfl, hb⟩
 refine ⟨_, rfl, ?_⟩
 replace HB := Aside0.mk (below_step bl_ hb)
 replace HO208 := Aside0.mk (Kd.R_below (mv_ HO208.out) hb)
 (try clear hb)
 (try clear hb2)
 (try clear hk)
 (try clear hi)
 refine hK.out _ _ trivial (fun hHeld => ?_)
 clear hK K
 refine norm_ (a' := ?_) ?_ ?_
 rotate_left
 ·show Act.put _ (some 22) _ = _
  simp only [pr_]
  rfl
 refine pure_ (i := 14) (N := some 2) (v := ?_) (a' := ?_) #[true, true, true, true, true, true, true, true, true, true, true, true, true, true, true] rfl rfl (any_of HT_.out (by kernel_rfl)) (fun _ _ _ h => h) (Or.inl ⟨by rfl, ?_⟩) ?_ ?_
 rotate_left
 ·intro w'
  go_simp
  with_reducible rfl
 rotate_left
 ·simp only [pr_]
  rfl
 refine done_ (done_of HT_.out (by kernel_rfl)) ?_
 try go_wp2
 go_ret
 exact ⟨by first | rfl | (simp [errW_none, errW_some] <;> rfl) | (simp only [← hji4]; first | rfl | (simp [errW_none, errW_some] <;> rfl)) | (simp [*, errW_none, errW_some] <;> rfl), bl_⟩

/-! ### merkle_Path: function 50 -/
mutual
def merkle_Path.j0 : Nat → List ByteArray → Int → Bool → Option (List ByteArray × Bool)
 | 0, _, _, _ => none
 | k + 1, x0, x1, x22 => if x22 = true then (some (([] : List ByteArray), false)) else (merkle_Path.l0 k x0 x1 ([] : List ByteArray) 1)
def merkle_Path.l0 : Nat → List ByteArray → Int → List ByteArray → Int → Option (List ByteArray × Bool)
 | 0, _, _, _, _ => none
 | k + 1, x0, x1, x6, x7 => if x7 < (x0.length : Int) then (if x7 = 0 then (none) else (if 0 ≤ (wrap64 ((Go.bits .xor .i64 (wrap64 (Int.tdiv x1 x7)) 1) * x7)) then (if (wrap64 ((Go.bits .xor .i64 (wrap64 (Int.tdiv x1 x7)) 1) * x7)) ≤ (wrap64 ((wrap64 ((Go.bits .xor .i64 (wrap64 (Int.tdiv x1 x7)) 1) * x7)) + x7)) then (if (wrap64 ((wrap64 ((Go.bits .xor .i64 (wrap64 (Int.tdiv x1 x7)) 1) * x7)) + x7)) ≤ (x0.length : Int) then ((merkle_root.f k ((x0.take ((wrap64 ((wrap64 ((Go.bits .xor .i64 (wrap64 (Int.tdiv x1 x7)) 1) * x7)) + x7)) : Int).toNat).drop ((wrap64 ((Go.bits .xor .i64 (wrap64 (Int.tdiv x1 x7)) 1) * x7)) : Int).toNat)).bind fun t212 => (if x6.length < 8796093022208 then (merkle_Path.l0 k x0 x1 (x6 ++ [t212]) (wrap64 (x7 * 2))) else (none))) else (none)) else (none)) else (none))) else (some (x6, true))
end
def merkle_Path.f (k : Nat) (l0 : List ByteArray) (a1 : Int) : Option (List ByteArray × Bool) := (merkle_leaves.f (l0.length : Int)).bind fun t210 => (if t210 = true then (if a1 < 0 then (merkle_Path.j0 k l0 a1 true) else (merkle_Path.j0 k l0 a1 (decide (a1 ≥ (l0.length : Int))))) else (merkle_Path.j0 k l0 a1 true))
theorem merkle_Path.mono_l : ∀ k, (∀ y0 y1 y2, LeO (merkle_Path.j0 k y0 y1 y2) (merkle_Path.j0 (k + 1) y0 y1 y2)) ∧ (∀ y0 y1 y2 y3, LeO (merkle_Path.l0 k y0 y1 y2 y3) (merkle_Path.l0 (k + 1) y0 y1 y2 y3))
 | 0 => ⟨fun _ _ _ r h => by simp [merkle_Path.j0] at h, fun _ _ _ _ r h => by simp [merkle_Path.l0] at h⟩
 | k + 1 => by
  obtain ⟨ih0, ih1⟩ := merkle_Path.mono_l k
  refine ⟨?_, ?_⟩ <;> intros <;> (first | unfold merkle_Path.j0 | unfold merkle_Path.l0) <;> repeat' first
  | (with_reducible exact ih0 _ _ _)
  | (with_reducible exact ih1 _ _ _ _)
  | (with_reducible exact merkle_root.mono _ _)
  | (with_reducible exact LeO.refl _)
  | (with_reducible exact LeO.none _)
  | (with_reducible refine LeO.ite ?_ ?_)
  | (with_reducible refine LeO.bind ?_ (fun _ => ?_))
  | exact ih0 _ _ _
  | exact ih1 _ _ _ _
  | exact merkle_root.mono _ _
  | exact LeO.none _
  | refine LeO.ite ?_ ?_
  | refine LeO.bind ?_ (fun _ => ?_)
theorem merkle_Path.mono : ∀ a0 a1 k, LeO (merkle_Path.f k a0 a1) (merkle_Path.f (k + 1) a0 a1) := by
 intro a0 a1 k
 obtain ⟨ih0, ih1⟩ := merkle_Path.mono_l k
 unfold merkle_Path.f
 repeat' first
  | (with_reducible exact ih0 _ _ _)
  | (with_reducible exact ih1 _ _ _ _)
  | (with_reducible exact merkle_root.mono _ _)
  | (with_reducible exact LeO.refl _)
  | (with_reducible exact LeO.none _)
  | (with_reducible refine LeO.ite ?_ ?_)
  | (with_reducible refine LeO.bind ?_ (fun _ => ?_))
  | exact ih0 _ _ _
  | exact ih1 _ _ _ _
  | exact merkle_root.mono _ _
  | exact LeO.none _
  | refine LeO.ite ?_ ?_
  | refine LeO.bind ?_ (fun _ => ?_)
set_option maxHeartbeats 64000000 in
set_option maxRecDepth 100000 in
theorem merkle_Path.calls (k : Nat) (A0 : Option Addr) (c0 : Nat) (l0 : List ByteArray) (a1 : Int) (r1 : List ByteArray) (r2 : Bool) (w : World) (hr0 : Kd.C Kd.string w A0 l0.length l0) (hc0 : l0.length ≤ c0) (hrG : Kd.C (Kd.int .u32) w (some ⟨0, 0, none⟩) keysL.length keysL) (h : merkle_Path.f k l0 a1 = some (r1, r2)) :
 Calls Tryz.prog 50 #[.slice A0 l0.length c0, .int .i64 a1] w fun e w' => ∃ v0_ : Value, e = .returned (.tuple #[v0_, .bool r2]) ∧ Kd.R Kd.string 9 w' w.heap.size (fun _ => True) v0_ r1 ∧ Below w.heap.size w w' := by
 have HR0 := Aside0.mk hr0
 have HC0 := Aside0.mk hc0
 clear hr0 hc0
 have HRG := Aside0.mk hrG
 clear hrG
 have HB := Aside0.mk (Below.refl w.heap.size w)
 have H : ((merkle_leaves.f (l0.length : Int)).bind fun t210 => (if t210 = true then (if a1 < 0 then (merkle_Path.j0 k l0 a1 true) else (merkle_Path.j0 k l0 a1 (decide (a1 ≥ (l0.length : Int))))) else (merkle_Path.j0 k l0 a1 true))) = some (r1, r2) := h
 clear h
 have HC3 := Aside0.mk H
 clear H
 go_enter Tryz.func50, Tryz.ntmps50
 go_upto_region 1 with (fail)
 go_cut [22] (fun v22 wc => ∃ (kq : Nat) (x22_2 : Bool), v22 = .bool x22_2 ∧ Aside0 (merkle_Path.j0 kq l0 a1 x22_2 = some (r1, r2)) ∧ Aside0 (kq ≤ k) ∧ Aside0 (Below w.heap.size w wc))
 case first =>
  have H := HC3.out
  clear HC3
  revert H; refine oa_ fun t210 A4 H => ?_
  by_cases c5 : t210 = true
  ·subst c5
   have H1 : (if a1 < 0 then (merkle_Path.j0 k l0 a1 true) else (merkle_Path.j0 k l0 a1 (decide (a1 ≥ (l0.length : Int))))) = some (r1, r2) := by rw [if_pos rfl] at H; exact H
   clear H
   have H := H1
   clear H1
   by_cases c6 : a1 < 0
   ·rw [if_pos c6] at H
    have c6b0 : decide (a1 < 0) = true := decide_eq_true c6
    clear c6
    (first | rw [c6b0] | (simp only [i64_w, i32_w]; rw [c6b0]) | skip)
    have H' := Aside0.mk H
    clear H
    go_wp2_with (first | ((with_reducible refine gate_callee (f := 84) rfl ?_); refine gL_ 11 Tryz.func84 #[.int .i64 (l0.length : Int)] ?_; (with_reducible refine (merkle_leaves.calls (l0.length : Int) true _ A4.out).mono ?_); rintro e w' ⟨rfl, ⟨nd, rfl⟩⟩; refine ⟨_, rfl, ?_⟩))
    go_meet
    case rel => exact ⟨_, (true), vq_, H', ⟨by first | omega | exact Nat.le_refl _⟩, ⟨bl_⟩⟩
   rw [if_neg c6] at H
   have c6b0 : decide (a1 < 0) = false := decide_eq_false c6
   clear c6
   (first | rw [c6b0] | (simp only [i64_w, i32_w]; rw [c6b0]) | skip)
   have H' := Aside0.mk H
   clear H
   go_wp2_with (first | ((with_reducible refine gate_callee (f := 84) rfl ?_); refine gL_ 11 Tryz.func84 #[.int .i64 (l0.length : Int)] ?_; (with_reducible refine (merkle_leaves.calls (l0.length : Int) true _ A4.out).mono ?_); rintro e w' ⟨rfl, ⟨nd, rfl⟩⟩; refine ⟨_, rfl, ?_⟩))
   go_meet
   case rel => exact ⟨_, (decide (a1 ≥ (l0.length : Int))), vq_, H', ⟨by first | omega | exact Nat.le_refl _⟩, ⟨bl_⟩⟩
  replace c5 := Bool.eq_false_iff.mpr c5
  subst c5
  have H1 : (merkle_Path.j0 k l0 a1 true) = some (r1, r2) := by rw [if_neg (show ¬ (false = true) by decide)] at H; exact H
  clear H
  have H := H1
  clear H1
  have H' := Aside0.mk H
  clear H
  go_wp2_with (first | ((with_reducible refine gate_callee (f := 84) rfl ?_); refine gL_ 11 Tryz.func84 #[.int .i64 (l0.length : Int)] ?_; (with_reducible refine (merkle_leaves.calls (l0.length : Int) false _ A4.out).mono ?_); rintro e w' ⟨rfl, ⟨nd, rfl⟩⟩; refine ⟨_, rfl, ?_⟩))
  go_meet
  case rel => exact ⟨_, (true), vq_, H', ⟨by first | omega | exact Nat.le_refl _⟩, ⟨bl_⟩⟩
 case rest =>
  clear HC3
  (try clear p2); (try clear c5); (try clear c6); (try clear c6b0); (try clear p6)
  obtain ⟨kq, x22_2, rfl, HA, HJ2, HB⟩ := hcut
  cases kq with
  | zero => exact absurd HA.out (by simp [merkle_Path.j0])
  | succ kj2 =>
   have H := HA.out
   clear HA
   simp only [merkle_Path.j0] at H
   by_cases c7 : x22_2 = true
   ·subst c7
    have H1 : (some (([] : List ByteArray), false)) = some (r1, r2) := by rw [if_pos rfl] at H; exact H
    clear H
    have H := H1
    clear H1
    simp only [Option.some.injEq, Prod.mk.injEq] at H
    obtain ⟨rfl, rfl⟩ := H
    go_wp2
    go_ret2
    exact ⟨_, er_, by first | exact Kd.R_nil _ _ _ _ _ | exact Kd.N_nil _ _ _ _ _ | exact Kd.V_nil _ _ _ _ _ | exact Kd.Q_nil _ _ _ _ _ | exact Kd.S_nil _ _ _ _ _, bl_⟩
   replace c7 := Bool.eq_false_iff.mpr c7
   subst c7
   have H1 : (merkle_Path.l0 kj2 l0 a1 ([] : List ByteArray) 1) = some (r1, r2) := by rw [if_neg (show ¬ (false = true) by decide)] at H; exact H
   clear H
   have H := H1
   clear H1
   have H' := Aside0.mk H
   clear H
   go_wp2
   go_loopg [6, 7] kj2 (fun kq v6 v7 w' => ∃ (x6_2 : List ByteArray) (x7_2 : Int), v7 = .int .i64 x7_2 ∧ Aside0 (merkle_Path.l0 kq l0 a1 x6_2 x7_2 = some (r1, r2)) ∧ Aside0 (kq ≤ kj2) ∧ Aside0 (Kd.R Kd.string 9 w' w.heap.size (fun _ => True) v6 x6_2) ∧ Aside0 (Below w.heap.size w w'))
   case atStart => exact ⟨(([] : List ByteArray)), (1), vq_, H', ⟨Nat.le_refl _⟩, ⟨by first | exact Kd.R_nil _ _ _ _ _ | exact Kd.N_nil _ _ _ _ _ | exact Kd.V_nil _ _ _ _ _ | exact Kd.Q_nil _ _ _ _ _ | exact Kd.S_nil _ _ _ _ _⟩, ⟨bl_⟩⟩
   case round =>
    clear H'
    (try clear p2); (try clear c5); (try clear c6); (try clear c6b0); (try clear p6); (try clear c7); (try clear p2); (try clear p6)
    obtain ⟨x6_2, x7_2, rfl, HA, HK2, HO_6, HB⟩ := hrel
    cases gk with
    | zero => exact absurd HA.out (by simp [merkle_Path.l0])
    | succ k2 =>
     have H := HA.out
     clear HA
     simp only [merkle_Path.l0] at H
     by_cases c8 : x7_2 < (l0.length : Int)
     ·rw [if_pos c8] at H
      have c8b0 : decide (x7_2 < (l0.length : Int)) = true := decide_eq_true c8
      clear c8
      by_cases c9 : x7_2 = 0
      ·rw [if_pos c9] at H
       exact absurd H (by simp)
      rw [if_neg c9] at H
      have c9b0 : (x7_2 == 0) = false := beq_eq_false_iff_ne.mpr c9
      have c9b1 : (x7_2 != 0) = true := bne_iff_ne.mpr c9
      generalize hji10 : (wrap64 ((Go.bits .xor .i64 (wrap64 (Int.tdiv a1 x7_2)) 1) * x7_2)) = ji10 at H
      have hji10w := (i64_w _).trans hji10
      revert H; refine ne_ fun c11 c11b0 c11b1 => ne_ fun c12 c12b0 c12b1 => ne_ fun c13 c13b0 c13b1 => oa_ fun t212 A14 => nc_ fun c15 H => ?_
      have LMc15 := Aside0.mk c15
      clear c11 c15
      generalize e_ : (x6_2 ++ [t212] : List ByteArray) = y213 at H
      have Ny213 := Aside0.mk e_.symm
      clear e_
      have H' := Aside0.mk H
      clear H
      obtain ⟨i016, hi016, _, hsz16, _⟩ := info_parts info9
      obtain ⟨A16, hcut16, hA16, hC16⟩ := print_mid_of (P := Tryz.prog) Value.string ⟨#[]⟩ 24 9 .i64 .i64 Tryz.underlying24 hi016 hsz16 A0 c0 l0 (ji10) (wrap64 ((ji10) + x7_2)) (ae_) (by first | omega | exact ae_) (ae_) HC0.out
      have HR211 := Aside0.mk (Kd.C_of_reads (h1 := fun _ => rfl) (hA16 _ (Kd.reads_of_C HR0.out)))
      have HC211 := Aside0.mk hC16
      clear hA16 hC16 hi016 hsz16
      go_wp2_with (first | ((with_reducible refine gate_callee (f := 85) rfl ?_); refine goesL_ (some 44) rfl rfl Tryz.func85 (by kernel_rfl) rfl #[.slice A16 ((l0.take ((wrap64 ((ji10) + x7_2)) : Int).toNat).drop ((ji10) : Int).toNat).length (c0 - (ji10).toNat)] rfl (by (try simp only [List.map_toArray, List.map_cons, List.map_nil]); first | done | (rw [show ((l0.take ((wrap64 ((ji10) + x7_2)) : Int).toNat).drop ((ji10) : Int).toNat).length = ((wrap64 ((ji10) + x7_2)).toNat - (ji10).toNat) from (by rw [List.length_drop, List.length_take]; have h_ : ((wrap64 ((ji10) + x7_2)) : Int) ≤ (l0.length : Int) := ae_; omega)] <;> rfl) | (simp only [hji10]; rfl) | rfl | (simp only [List.length_drop, List.length_take]; rfl)) ?_; (with_reducible refine (merkle_root.calls k2 _ _ ((l0.take ((wrap64 ((ji10) + x7_2)) : Int).toNat).drop ((ji10) : Int).toNat) t212 _ ?side1 ?side2 ?side3 A14.out).mono ?_); (case side1 => repeat (first | exact (Kd.C_below HR211.out HB.out) | (with_reducible refine Kd.C_alloc ?_ _) | (with_reducible refine Kd.C_drewN ?_ _) | (with_reducible refine Kd.C_drew ?_))); (case side2 => exact HC211.out); (case side3 => repeat (first | exact (Kd.C_below HRG.out HB.out) | (with_reducible refine Kd.C_alloc ?_ _) | (with_reducible refine Kd.C_drewN ?_ _) | (with_reducible refine Kd.C_drew ?_))); rintro e w17 ⟨rfl, hb⟩; refine ⟨_, rfl, ?_⟩; replace HB := Aside0.mk (below_step bl_ hb); replace HO_6 := Aside0.mk (Kd.R_below (mv_ HO_6.out) hb); (try clear hb); (try clear hb2); (try clear hk); (try clear hi)) | ((with_reducible refine gate_builtin (b := .append) (xs := #[.tmp 33, .tmp 45]) rfl ?_); (try (refine gate_guard (by rfl) ?_; dsimp only)); at_builtin; refine Kd.R_append Kd.string (w0 := w) w.heap.size rfl (.tmp 33) (.tmp 45) 24 9 (.string ⟨#[]⟩) 16 rfl Tryz.underlying24 info9 rfl (by decide) (by omega) u6 x6_2 t212 [.string t212] (fun _ => True) (fun _ => False) rfl rfl ?aP (fun _ hk => hk.elim) ?aF ?aO ?aB ?aS ?aL ?_; (case aP => exact rfl); (case aB => exact bl_); (case aF => exact (fun _ _ => trivial)); (case aO => exact (mv_ HO_6.out)); (case aS => exact (below_size bl_)); (case aL => have := LMc15.out; omega); intro v214 w18 ho hb hg hat; rw [← Ny213.out] at ho; have HO215 := Aside0.mk (ho); replace HB := Aside0.mk (hb); clear HO_6; clear ho hb hg hat))
      go_roundg k2
      case measure => have := HJ2.out; have := HK2.out; omega
      case rel => exact ⟨(y213), (wrap64 (x7_2 * 2)), vq_, H', ⟨by have := HJ2.out; have := HK2.out; omega⟩, ⟨mv_ HO215.out⟩, ⟨bl_⟩⟩
     rw [if_neg c8] at H
     have c8b0 : decide (x7_2 < (l0.length : Int)) = false := decide_eq_false c8
     clear c8
     simp only [Option.some.injEq, Prod.mk.injEq] at H
     obtain ⟨rfl, rfl⟩ := H
     go_wp2
     go_ret2
     exact ⟨_, er_, mv_ HO_6.out, bl_⟩

-- NOT PRINTED: function 116 (atomic_LoadUint32)

-- NOT PRINTED: function 109 (atomic_Bool_Load)

-- NOT PRINTED: function 127 (race_Disable)

-- NOT PRINTED: function 128 (race_Enable)

-- NOT PRINTED: function 129 (race_Acquire)

-- NOT PRINTED: function 132 (atomic_AddInt32)

-- NOT PRINTED: function 134 (sync_runtime_canSpin)

-- NOT PRINTED: function 135 (sync_runtime_doSpin)

-- NOT PRINTED: function 136 (sync_throw)

-- NOT PRINTED: function 137 (sync_runtime_nanotime)

-- NOT PRINTED: function 138 (sync_runtime_SemacquireMutex)

-- NOT PRINTED: function 130 (sync_Mutex_lockSlow)

-- NOT PRINTED: function 123 (sync_Mutex_Lock_123)

-- NOT PRINTED: function 117 (sync_Mutex_Lock_117)

-- NOT PRINTED: function 131 (race_ReleaseMerge)

-- NOT PRINTED: function 139 (sync_fatal)

-- NOT PRINTED: function 140 (sync_runtime_Semrelease)

-- NOT PRINTED: function 133 (sync_Mutex_unlockSlow)

-- NOT PRINTED: function 124 (sync_Mutex_Unlock_124)

-- NOT PRINTED: function 118 (sync_Mutex_Unlock_118)

-- NOT PRINTED: function 125 (atomic_StoreUint32)

/-! ### atomic_b32: function 126 -/
def atomic_b32.f (a0 : Bool) : Option (Int) := if a0 = true then (some 1) else (some 0)
set_option maxHeartbeats 64000000 in
set_option maxRecDepth 100000 in
theorem atomic_b32.calls (a0 : Bool) (r : Int) (w : World) (h : atomic_b32.f a0 = some r) :
 Calls Tryz.prog 126 #[.bool a0] w fun e w' => e = .returned (.int .u32 r) ∧ Drawn0 w w' := by
 have H : (if a0 = true then (some 1) else (some 0)) = some r := h
 clear h
 by_cases c2 : a0 = true
 ·subst c2
  have H1 : (some 1) = some r := by rw [if_pos rfl] at H; exact H
  clear H
  have H := H1
  clear H1
  obtain rfl := Option.some.inj H
  go_enter Tryz.func126, Tryz.ntmps126
  go_wp2
  go_ret
  exact ⟨by first | rfl | (simp; done) | (simp [*]; done) | exact congrArg Value.bool (nonempty_l _) | (refine congrArg (Value.int _) ?_; first | omega | (unfold wrap64; omega)), by repeat (first | exact Drawn0.refl _ | apply Drawn0.step)⟩
 replace c2 := Bool.eq_false_iff.mpr c2
 subst c2
 have H1 : (some 0) = some r := by rw [if_neg (show ¬ (false = true) by decide)] at H; exact H
 clear H
 have H := H1
 clear H1
 obtain rfl := Option.some.inj H
 go_enter Tryz.func126, Tryz.ntmps126
 go_wp2
 go_ret
 exact ⟨by first | rfl | (simp; done) | (simp [*]; done) | exact congrArg Value.bool (nonempty_l _) | (refine congrArg (Value.int _) ?_; first | omega | (unfold wrap64; omega)), by repeat (first | exact Drawn0.refl _ | apply Drawn0.step)⟩

-- NOT PRINTED: function 119 (atomic_Bool_Store)

-- NOT PRINTED: function 110 (sync_Once_doSlow)

-- NOT PRINTED: function 86 (sync_Once_Do)

/-! ### wots_Public: function 111 (walked by hand) -/
def wots_Public.f (k : Nat) (a0 : ByteArray) (a1 : Int) : Option (ByteArray × Bool) :=
  (wots_leafs.f k a1).bind fun b => if b.2 = true then ((wots_values.f k a0 a1 (List.replicate 67 15)).bind fun l => ((sha_Tag.f k 3 l).bind fun t => some (t, true))) else (some ((⟨#[]⟩ : ByteArray), false))
theorem wots_Public.mono : ∀ a0 a1 k, LeO (wots_Public.f k a0 a1) (wots_Public.f (k + 1) a0 a1) := by
  intro a0 a1 k
  unfold wots_Public.f
  exact LeO.bind (wots_leafs.mono _ _) fun _ => LeO.ite (LeO.bind (wots_values.mono _ _ _ _) fun _ => LeO.bind (sha_Tag.mono _ _ _) fun _ => LeO.refl _) (LeO.refl _)
theorem wots_Public.rep (i : Int) (h0 : 0 ≤ i) (h1 : i < ((List.replicate 67 (15 : Int)).length : Int)) : rd (List.replicate 67 15) i = 15 := by
  rw [List.length_replicate] at h1
  have h2 : i.toNat < 67 := by omega
  unfold rd
  rw [List.getD_eq_getElem?_getD, List.getElem?_replicate, if_pos h2]
  rfl
set_option maxHeartbeats 8000000 in
theorem wots_Public.fv (w : World) : FV Tryz.prog w (.func (.func 120) #[] #[]) (List.replicate 67 15) := by
  refine ⟨120, Tryz.f120, #[], rfl, Tryz.func120, by kernel_rfl, rfl, fun i W h0 h1 hb => ?_⟩
  rw [wots_Public.rep i h0 h1]
  show Calls Tryz.prog 120 #[.int .i64 i] W _
  clear h0 h1 hb
  go_enter Tryz.func120, Tryz.ntmps120
  go_wp2
  go_ret
  exact ⟨rfl, Below.refl _ _⟩
set_option maxHeartbeats 8000000 in
set_option maxRecDepth 100000 in
theorem wots_Public.calls (k : Nat) (a0 : ByteArray) (a1 : Int) (r1 : ByteArray) (r2 : Bool) (w : World) (hrG : Kd.C (Kd.int .u32) w (some ⟨0, 0, none⟩) keysL.length keysL) (h : wots_Public.f k a0 a1 = some (r1, r2)) :
    Calls Tryz.prog 111 #[.string a0, .int .i64 a1] w fun e w' => e = .returned (.tuple #[.string r1, .bool r2]) ∧ Below w.heap.size w w' := by
  have HRG := Aside0.mk hrG
  clear hrG
  unfold wots_Public.f at h
  replace h := Option.bind_eq_some_iff.mp h
  obtain ⟨⟨n, ok⟩, hL, h⟩ := h
  cases ok with
  | false =>
    replace h : some ((⟨#[]⟩ : ByteArray), false) = some (r1, r2) := h
    simp only [Option.some.injEq, Prod.mk.injEq] at h
    obtain ⟨rfl, rfl⟩ := h
    have HL := Aside0.mk hL
    clear hL
    go_enter Tryz.func111, Tryz.ntmps111
    go_wp2_with (first | (go_at_call 81; (with_reducible refine (wots_leafs.calls k _ n false _ HL.out).mono ?_); rintro e w1 ⟨rfl, hb⟩; have HB := Aside0.mk hb; clear hb))
    go_ret2
    exact ⟨rfl, HB.out⟩
  | true =>
    replace h : ((wots_values.f k a0 a1 (List.replicate 67 15)).bind fun l => ((sha_Tag.f k 3 l).bind fun t => some (t, true))) = some (r1, r2) := h
    replace h := Option.bind_eq_some_iff.mp h
    obtain ⟨l, hV, h⟩ := h
    replace h := Option.bind_eq_some_iff.mp h
    obtain ⟨t, hT, h⟩ := h
    simp only [Option.some.injEq, Prod.mk.injEq] at h
    obtain ⟨rfl, rfl⟩ := h
    have HL := Aside0.mk hL
    have HV := Aside0.mk hV
    have HT := Aside0.mk hT
    clear hL hV hT
    go_enter Tryz.func111, Tryz.ntmps111
    go_wp2_with (first | (go_at_call 81; (with_reducible refine (wots_leafs.calls k _ n true _ HL.out).mono ?_); rintro e w1 ⟨rfl, hb⟩; have HB := Aside0.mk hb; clear hb) | (go_at_call 82; (refine (wots_values.calls k _ _ _ _ l _ (wots_Public.fv _) (Kd.C_below HRG.out HB.out) HV.out).mono ?_); rintro e w2 ⟨v, rfl, ho, hb⟩; have n1_ := Aside0.mk (below_step HB.out hb); clear HB; have HB := n1_; clear n1_; obtain ⟨A1, c1, rfl, hc1, hC1⟩ := Kd.R_reads ho; have HC1 := Aside0.mk hc1; have HR1 := Aside0.mk hC1; clear hc1 hC1 ho hb) | (go_at_call 42; (refine (sha_Tag.calls k 3 A1 c1 l t _ HR1.out HC1.out (Kd.C_below HRG.out HB.out) HT.out).mono ?_); rintro e w3 ⟨rfl, hb⟩; have n1_ := Aside0.mk (below_step HB.out hb); clear HB; have HB := n1_; clear n1_ hb))
    go_ret2
    exact ⟨rfl, HB.out⟩

-- NOT PRINTED: function 87 (key_Key_plant)

-- NOT PRINTED: function 51 (key_Key_tree)

-- NOT PRINTED: function 52 (strings_Join)

-- NOT PRINTED: function 17 (key_Key_Sign)

-- NOT PRINTED: function 31 (key_Key_Used)

-- NOT PRINTED: function 22 (key_Key_Left)

/-! ### palaverref01_Number: function 36 -/
mutual
def palaverref01_Number.l0 : Nat → Int → Int → Int → Int → Option (ByteArray × Bool)
 | 0, _, _, _, _ => none
 | k + 1, x0, x1, x6, x7 => if x7 < x1 then (palaverref01_Number.l0 k x0 x1 (wrap64 (256 * x6)) (wrap64 (x7 + 1))) else (if x0 < 0 then (palaverref01_Number.j1 k x0 x1 true) else (palaverref01_Number.j1 k x0 x1 (decide (x0 ≥ x6))))
def palaverref01_Number.j1 : Nat → Int → Int → Bool → Option (ByteArray × Bool)
 | 0, _, _, _ => none
 | k + 1, x0, x1, x23 => if x23 = true then (some ((⟨#[]⟩ : ByteArray), false)) else (palaverref01_Number.l1 k x0 x1 (⟨#[]⟩ : ByteArray) 0)
def palaverref01_Number.l1 : Nat → Int → Int → ByteArray → Int → Option (ByteArray × Bool)
 | 0, _, _, _, _ => none
 | k + 1, x0, x1, x8, x9 => if x9 < x1 then ((some (([(Int.tmod x0 256) % 256] : List Int) : List Int)).bind fun y217 => (if (strOfNums y217).size + x8.size ≤ 9223372036854775807 then (palaverref01_Number.l1 k (wrap64 (Int.tdiv x0 256)) x1 ((strOfNums y217) ++ x8) (wrap64 (x9 + 1))) else (none))) else (some (x8, true))
end
def palaverref01_Number.f (k : Nat) (a0 : Int) (a1 : Int) : Option (ByteArray × Bool) := palaverref01_Number.l0 k a0 a1 1 0
theorem palaverref01_Number.mono_l : ∀ k, (∀ y0 y1 y2 y3, LeO (palaverref01_Number.l0 k y0 y1 y2 y3) (palaverref01_Number.l0 (k + 1) y0 y1 y2 y3)) ∧ (∀ y0 y1 y2, LeO (palaverref01_Number.j1 k y0 y1 y2) (palaverref01_Number.j1 (k + 1) y0 y1 y2)) ∧ (∀ y0 y1 y2 y3, LeO (palaverref01_Number.l1 k y0 y1 y2 y3) (palaverref01_Number.l1 (k + 1) y0 y1 y2 y3))
 | 0 => ⟨fun _ _ _ _ r h => by simp [palaverref01_Number.l0] at h, fun _ _ _ r h => by simp [palaverref01_Number.j1] at h, fun _ _ _ _ r h => by simp [palaverref01_Number.l1] at h⟩
 | k + 1 => by
  obtain ⟨ih0, ih1, ih2⟩ := palaverref01_Number.mono_l k
  refine ⟨?_, ?_, ?_⟩ <;> intros <;> (first | unfold palaverref01_Number.l0 | unfold palaverref01_Number.j1 | unfold palaverref01_Number.l1) <;> repeat' first
  | (with_reducible exact ih0 _ _ _ _)
  | (with_reducible exact ih1 _ _ _)
  | (with_reducible exact ih2 _ _ _ _)
  | (with_reducible exact LeO.refl _)
  | (with_reducible exact LeO.none _)
  | (with_reducible refine LeO.ite ?_ ?_)
  | (with_reducible refine LeO.bind ?_ (fun _ => ?_))
  | exact ih0 _ _ _ _
  | exact ih1 _ _ _
  | exact ih2 _ _ _ _
  | exact LeO.none _
  | refine LeO.ite ?_ ?_
  | refine LeO.bind ?_ (fun _ => ?_)
theorem palaverref01_Number.mono : ∀ a0 a1 k, LeO (palaverref01_Number.f k a0 a1) (palaverref01_Number.f (k + 1) a0 a1) := by
 intro a0 a1 k
 obtain ⟨ih0, ih1, ih2⟩ := palaverref01_Number.mono_l k
 unfold palaverref01_Number.f
 repeat' first
  | (with_reducible exact ih0 _ _ _ _)
  | (with_reducible exact ih1 _ _ _)
  | (with_reducible exact ih2 _ _ _ _)
  | (with_reducible exact LeO.refl _)
  | (with_reducible exact LeO.none _)
  | (with_reducible refine LeO.ite ?_ ?_)
  | (with_reducible refine LeO.bind ?_ (fun _ => ?_))
  | exact ih0 _ _ _ _
  | exact ih1 _ _ _
  | exact ih2 _ _ _ _
  | exact LeO.none _
  | refine LeO.ite ?_ ?_
  | refine LeO.bind ?_ (fun _ => ?_)
set_option maxHeartbeats 64000000 in
set_option maxRecDepth 100000 in
theorem palaverref01_Number.calls (k : Nat) (a0 : Int) (a1 : Int) (r1 : ByteArray) (r2 : Bool) (w : World) (h : palaverref01_Number.f k a0 a1 = some (r1, r2)) :
 Calls Tryz.prog 36 #[.int .i64 a0, .int .i64 a1] w fun e w' => e = .returned (.tuple #[.string r1, .bool r2]) ∧ Below w.heap.size w w' := by
 have HB := Aside0.mk (Below.refl w.heap.size w)
 have H : (palaverref01_Number.l0 k a0 a1 1 0) = some (r1, r2) := h
 clear h
 have H' := Aside0.mk H
 clear H
 go_enter Tryz.func36, Tryz.ntmps36
 go_wp2
 go_loopg [6, 7] k (fun kq v6 v7 w' => ∃ (x6_1 : Int) (x7_1 : Int), v6 = .int .i64 x6_1 ∧ v7 = .int .i64 x7_1 ∧ Aside0 (palaverref01_Number.l0 kq a0 a1 x6_1 x7_1 = some (r1, r2)) ∧ Aside0 (kq ≤ k) ∧ Aside0 (Below w.heap.size w w'))
 case atStart => exact ⟨(1), (0), vq_, vq_, H', ⟨Nat.le_refl _⟩, ⟨bl_⟩⟩
 case round =>
  clear H'
  (try clear p2)
  obtain ⟨x6_1, x7_1, rfl, rfl, HA, HK1, HB⟩ := hrel
  cases gk with
  | zero => exact absurd HA.out (by simp [palaverref01_Number.l0])
  | succ k1 =>
   have H := HA.out
   clear HA
   simp only [palaverref01_Number.l0] at H
   by_cases c3 : x7_1 < a1
   ·rw [if_pos c3] at H
    have c3b0 : decide (x7_1 < a1) = true := decide_eq_true c3
    clear c3
    have H' := Aside0.mk H
    clear H
    go_wp2
    go_roundg k1
    case measure => have := HK1.out; omega
    case rel => exact ⟨(wrap64 (256 * x6_1)), (wrap64 (x7_1 + 1)), vq_, vq_, H', ⟨by have := HK1.out; omega⟩, ⟨bl_⟩⟩
   rw [if_neg c3] at H
   have c3b0 : decide (x7_1 < a1) = false := decide_eq_false c3
   clear c3
   have HC4 := Aside0.mk H
   clear H
   go_upto_region 6 with (fail)
   go_cut [23] (fun v23 wc => ∃ (kq : Nat) (x23_3 : Bool), v23 = .bool x23_3 ∧ Aside0 (palaverref01_Number.j1 kq a0 a1 x23_3 = some (r1, r2)) ∧ Aside0 (kq ≤ k1) ∧ Aside0 (Below w.heap.size w wc))
   case first =>
    have H := HC4.out
    clear HC4
    by_cases c5 : a0 < 0
    ·rw [if_pos c5] at H
     have c5b0 : decide (a0 < 0) = true := decide_eq_true c5
     clear c5
     (first | rw [c5b0] | (simp only [i64_w, i32_w]; rw [c5b0]) | skip)
     have H' := Aside0.mk H
     clear H
     go_wp2
     go_meet
     case rel => exact ⟨_, (true), vq_, H', ⟨by have := HK1.out; first | omega | exact Nat.le_refl _⟩, ⟨bl_⟩⟩
    rw [if_neg c5] at H
    have c5b0 : decide (a0 < 0) = false := decide_eq_false c5
    clear c5
    (first | rw [c5b0] | (simp only [i64_w, i32_w]; rw [c5b0]) | skip)
    have H' := Aside0.mk H
    clear H
    go_wp2
    go_meet
    case rel => exact ⟨_, (decide (a0 ≥ x6_1)), vq_, H', ⟨by have := HK1.out; first | omega | exact Nat.le_refl _⟩, ⟨bl_⟩⟩
   case rest =>
    clear HC4
    (try clear p2); (try clear c3); (try clear c3b0); (try clear c5); (try clear c5b0); (try clear p2)
    obtain ⟨kq, x23_3, rfl, HA, HJ3, HB⟩ := hcut
    cases kq with
    | zero => exact absurd HA.out (by simp [palaverref01_Number.j1])
    | succ kj3 =>
     have H := HA.out
     clear HA
     simp only [palaverref01_Number.j1] at H
     by_cases c6 : x23_3 = true
     ·subst c6
      have H1 : (some ((⟨#[]⟩ : ByteArray), false)) = some (r1, r2) := by rw [if_pos rfl] at H; exact H
      clear H
      have H := H1
      clear H1
      simp only [Option.some.injEq, Prod.mk.injEq] at H
      obtain ⟨rfl, rfl⟩ := H
      go_wp2
      go_ret2
      exact ⟨er_, bl_⟩
     replace c6 := Bool.eq_false_iff.mpr c6
     subst c6
     have H1 : (palaverref01_Number.l1 kj3 a0 a1 (⟨#[]⟩ : ByteArray) 0) = some (r1, r2) := by rw [if_neg (show ¬ (false = true) by decide)] at H; exact H
     clear H
     have H := H1
     clear H1
     have H' := Aside0.mk H
     clear H
     go_wp2
     go_loopg [0, 8, 9] kj3 (fun kq v0 v8 v9 w' => ∃ (x0_3 : Int) (x8_3 : ByteArray) (x9_3 : Int), v0 = .int .i64 x0_3 ∧ v8 = .string x8_3 ∧ v9 = .int .i64 x9_3 ∧ Aside0 (palaverref01_Number.l1 kq x0_3 a1 x8_3 x9_3 = some (r1, r2)) ∧ Aside0 (kq ≤ kj3) ∧ Aside0 (Below w.heap.size w w'))
     case atStart => exact ⟨(a0), ((⟨#[]⟩ : ByteArray)), (0), vq_, vq_, vq_, H', ⟨Nat.le_refl _⟩, ⟨bl_⟩⟩
     case round =>
      clear H'
      (try clear p2); (try clear c3); (try clear c3b0); (try clear c5); (try clear c5b0); (try clear c6); (try clear p6); (try clear p2)
      obtain ⟨x0_3, x8_3, x9_3, rfl, rfl, rfl, HA, HK3, HB⟩ := hrel
      cases gk with
      | zero => exact absurd HA.out (by simp [palaverref01_Number.l1])
      | succ k3 =>
       have H := HA.out
       clear HA
       simp only [palaverref01_Number.l1] at H
       by_cases c7 : x9_3 < a1
       ·rw [if_pos c7] at H
        have c7b0 : decide (x9_3 < a1) = true := decide_eq_true c7
        clear c7
        revert H; refine oy_ fun y217 Ny217 => ne_ fun c8 c8b0 c8b1 H => ?_
        try have c8b2 : (9223372036854775807 < (strOfNums y217).size + x8_3.size) = False := eq_false (Nat.not_lt.2 c8)
        have H' := Aside0.mk H
        clear H
        go_wp2_with (first | ((with_reducible refine gate_dst (N := 32) rfl ?_); refine Kd.R_lit (Kd.int .u8) _ 5 ?hg (N := 32) ?hd (xs := ([(Int.tmod x0_3 256) % 256] : List Int)) (inner := [.int .u8 ((Int.tmod x0_3 256) % 256)]) (ok := fun _ => True) (okp := fun _ => True) ?hr ?hp (fun _ hk => hk) trivial (Below.refl _ _) (Nat.le_refl _) (by simp) ?_; (case hd => rfl); (case hg => rfl); (case hr => exact gr_); (case hp => exact (Reps.one (show Kd.M (Kd.int .u8) _ _ _ ((Int.tmod x0_3 256) % 256) [.int .u8 ((Int.tmod x0_3 256) % 256)] from rfl) (Reps.none _ _))); intro v218 w9 ho10 hb hg_ hnew_; clear hg_ hnew_; (first | rw [← Ny217.out] at ho10 | (simp only [Int.reduceToNat] at ho10; rw [← Ny217.out] at ho10)); have HO219 := Aside0.mk (Kd.R_lower ho10 (below_size bl_)); replace HB := Aside0.mk (below_step bl_ hb); clear hb ho10; have hcv11 := own_string (P := Tryz.prog) Tryz.underlying39 Tryz.underlying5 Tryz.underlying9 (Kd.own_of_R HO219.out)))
        go_roundg k3
        case measure => have := HK1.out; have := HJ3.out; have := HK3.out; omega
        case rel => exact ⟨(wrap64 (Int.tdiv x0_3 256)), ((strOfNums y217) ++ x8_3), (wrap64 (x9_3 + 1)), vq_, vq_, vq_, H', ⟨by have := HK1.out; have := HJ3.out; have := HK3.out; omega⟩, ⟨bl_⟩⟩
       rw [if_neg c7] at H
       have c7b0 : decide (x9_3 < a1) = false := decide_eq_false c7
       clear c7
       simp only [Option.some.injEq, Prod.mk.injEq] at H
       obtain ⟨rfl, rfl⟩ := H
       go_wp2
       go_ret2
       exact ⟨er_, bl_⟩

/-! ### palaverref02_Input: function 37 -/
def palaverref02_Input.l0 : Nat → List ByteArray → List Int → Int → Option (ByteArray)
 | 0, _, _, _ => none
 | k + 1, x1, x5, x6 => if x6 < (x1.length : Int) then (if 0 ≤ x6 then ((palaverref01_Number.f k ((rdOf ByteArray.empty x1 x6).size : Int) 4).bind fun bt224 => (if x5.length + bt224.1.size < 140737488355328 then ((some (x5 ++ bytesOf bt224.1 : List Int)).bind fun y226 => (if y226.length + (rdOf ByteArray.empty x1 x6).size < 140737488355328 then (palaverref02_Input.l0 k x1 (y226 ++ bytesOf (rdOf ByteArray.empty x1 x6)) (wrap64 (x6 + 1))) else (none))) else (none))) else (none)) else (some (strOfNums x5))
def palaverref02_Input.f (k : Nat) (a0 : Int) (l1 : List ByteArray) : Option (ByteArray) := palaverref02_Input.l0 k l1 (([(Int.tmod (wrap64 ((Int.tmod a0 256) + 256)) 256) % 256] : List Int)) 0
theorem palaverref02_Input.mono_l : ∀ k, (∀ y0 y1 y2, LeO (palaverref02_Input.l0 k y0 y1 y2) (palaverref02_Input.l0 (k + 1) y0 y1 y2))
 | 0 => fun _ _ _ r h => by simp [palaverref02_Input.l0] at h
 | k + 1 => by
  have ih0 := palaverref02_Input.mono_l k
  ·intro y0 y1 y2
   unfold palaverref02_Input.l0
   repeat' first
   | (with_reducible exact ih0 _ _ _)
   | (with_reducible exact palaverref01_Number.mono _ _ _)
   | (with_reducible exact LeO.refl _)
   | (with_reducible exact LeO.none _)
   | (with_reducible refine LeO.ite ?_ ?_)
   | (with_reducible refine LeO.bind ?_ (fun _ => ?_))
   | exact ih0 _ _ _
   | exact palaverref01_Number.mono _ _ _
   | exact LeO.none _
   | refine LeO.ite ?_ ?_
   | refine LeO.bind ?_ (fun _ => ?_)
theorem palaverref02_Input.mono : ∀ a0 a1 k, LeO (palaverref02_Input.f k a0 a1) (palaverref02_Input.f (k + 1) a0 a1) := by
 intro a0 a1 k
 have ih0 := palaverref02_Input.mono_l k
 unfold palaverref02_Input.f
 repeat' first
  | (with_reducible exact ih0 _ _ _)
  | (with_reducible exact palaverref01_Number.mono _ _ _)
  | (with_reducible exact LeO.refl _)
  | (with_reducible exact LeO.none _)
  | (with_reducible refine LeO.ite ?_ ?_)
  | (with_reducible refine LeO.bind ?_ (fun _ => ?_))
  | exact ih0 _ _ _
  | exact palaverref01_Number.mono _ _ _
  | exact LeO.none _
  | refine LeO.ite ?_ ?_
  | refine LeO.bind ?_ (fun _ => ?_)
set_option maxHeartbeats 64000000 in
set_option maxRecDepth 100000 in
theorem palaverref02_Input.calls (k : Nat) (a0 : Int) (A1 : Option Addr) (c1 : Nat) (l1 : List ByteArray) (r : ByteArray) (w : World) (hr1 : Kd.C Kd.string w A1 l1.length l1) (hc1 : l1.length ≤ c1) (h : palaverref02_Input.f k a0 l1 = some r) :
 Calls Tryz.prog 37 #[.int .i64 a0, .slice A1 l1.length c1] w fun e w' => e = .returned (.string r) ∧ Below w.heap.size w w' := by
 have HR1 := Aside0.mk hr1
 have HC1 := Aside0.mk hc1
 clear hr1 hc1
 have HB := Aside0.mk (Below.refl w.heap.size w)
 have H : (palaverref02_Input.l0 k l1 (([(Int.tmod (wrap64 ((Int.tmod a0 256) + 256)) 256) % 256] : List Int)) 0) = some r := h
 clear h
 generalize e_ : (([(Int.tmod (wrap64 ((Int.tmod a0 256) + 256)) 256) % 256] : List Int) : List Int) = y220 at H
 have Ny220 := Aside0.mk e_.symm
 clear e_
 have H' := Aside0.mk H
 clear H
 go_enter Tryz.func37, Tryz.ntmps37
 go_wp2_with (first | ((with_reducible refine gate_dst (N := 14) rfl ?_); refine Kd.R_lit (Kd.int .u8) _ 5 ?hg (N := 14) ?hd (xs := ([(Int.tmod (wrap64 ((Int.tmod a0 256) + 256)) 256) % 256] : List Int)) (inner := [.int .u8 ((Int.tmod (wrap64 ((Int.tmod a0 256) + 256)) 256) % 256)]) (ok := fun _ => True) (okp := fun _ => True) ?hr ?hp (fun _ hk => hk) trivial (Below.refl _ _) (Nat.le_refl _) (by simp) ?_; (case hd => rfl); (case hg => rfl); (case hr => exact gr_); (case hp => exact (Reps.one (show Kd.M (Kd.int .u8) _ _ _ ((Int.tmod (wrap64 ((Int.tmod a0 256) + 256)) 256) % 256) [.int .u8 ((Int.tmod (wrap64 ((Int.tmod a0 256) + 256)) 256) % 256)] from rfl) (Reps.none _ _))); intro v221 w3 ho4 hb hg_ hnew_; clear hg_ hnew_; (first | rw [← Ny220.out] at ho4 | (simp only [Int.reduceToNat] at ho4; rw [← Ny220.out] at ho4)); have HO222 := Aside0.mk (Kd.R_lower ho4 (below_size bl_)); replace HB := Aside0.mk (below_step bl_ hb); clear hb ho4))
 go_loopg [5, 6] k (fun kq v5 v6 w' => ∃ (x5_1 : List Int) (x6_1 : Int), v6 = .int .i64 x6_1 ∧ Aside0 (palaverref02_Input.l0 kq l1 x5_1 x6_1 = some r) ∧ Aside0 (kq ≤ k) ∧ Aside0 (Kd.R (Kd.int .u8) 5 w' w.heap.size (fun _ => True) v5 x5_1) ∧ Aside0 (Below w.heap.size w w'))
 case atStart => exact ⟨(y220), (0), vq_, H', ⟨Nat.le_refl _⟩, ⟨mv_ HO222.out⟩, ⟨bl_⟩⟩
 case round =>
  clear H'
  (try clear c1); (try clear p2); (try clear c3)
  obtain ⟨x5_1, x6_1, rfl, HA, HK1, HO_5, HB⟩ := hrel
  cases gk with
  | zero => exact absurd HA.out (by simp [palaverref02_Input.l0])
  | succ k1 =>
   have H := HA.out
   clear HA
   simp only [palaverref02_Input.l0] at H
   by_cases c5 : x6_1 < (l1.length : Int)
   ·rw [if_pos c5] at H
    have c5b0 : decide (x6_1 < (l1.length : Int)) = true := decide_eq_true c5
    clear c5
    revert H; refine nd_ fun c6 c6b0 H => ?_
    clear c6
    replace H := ob_ H
    obtain ⟨⟨t224, t225⟩, A70, H⟩ := H
    replace H : (if x5_1.length + t224.size < 140737488355328 then ((some (x5_1 ++ bytesOf t224 : List Int)).bind fun y226 => (if y226.length + (rdOf ByteArray.empty l1 x6_1).size < 140737488355328 then (palaverref02_Input.l0 k1 l1 (y226 ++ bytesOf (rdOf ByteArray.empty l1 x6_1)) (wrap64 (x6_1 + 1))) else (none))) else (none)) = some r := H
    have A7 := Aside0.mk A70
    clear A70
    revert H; refine nc_ fun c8 => oy_ fun y226 Ny226 => nc_ fun c9 H => ?_
    have LMc8 := Aside0.mk c8
    have LMc9 := Aside0.mk c9
    clear c8 c9
    generalize e_ : (y226 ++ bytesOf (rdOf ByteArray.empty l1 x6_1) : List Int) = y230 at H
    have Ny230 := Aside0.mk e_.symm
    clear e_
    have H' := Aside0.mk H
    clear H
    have p223 : 0 ≤ (x6_1 : Int) := ae_
    have q223 : x6_1 < (l1.length : Int) := ae_
    obtain ⟨ad223, e223, hx223_0⟩ := Kd.at_string HR1.out x6_1 p223 q223
    cases e223
    replace hx223_0 := (HB.out.cell (World.block_lt_of_cell? w _ hx223_0)).trans hx223_0
    replace p223 := eq_true p223
    replace q223 := eq_true q223
    go_wp2_with (first | ((with_reducible refine gate_callee (f := 36) rfl ?_); refine gL_ 27 Tryz.func36 #[.int .i64 ((rdOf ByteArray.empty l1 x6_1).size : Int), .int .i64 4] ?_; (with_reducible refine (palaverref01_Number.calls k1 ((rdOf ByteArray.empty l1 x6_1).size : Int) 4 t224 t225 _ A7.out).mono ?_); rintro e w10 ⟨rfl, hb⟩; refine ⟨_, rfl, ?_⟩; replace HB := Aside0.mk (below_step bl_ hb); replace HO_5 := Aside0.mk (Kd.R_below (mv_ HO_5.out) hb); (try clear hb); (try clear hb2); (try clear hk); (try clear hi)) | (at_builtin; refine print_append_str (w0 := w) w.heap.size rfl (.tmp 30) _ 39 9 5 rfl Tryz.underlying39 Tryz.underlying9 info5 u5 x5_1 t224 rfl rfl ?aO ?aB ?aS ?aL ?_; (case aB => exact bl_); (case aO => exact (Kd.own_of_R (mv_ HO_5.out))); (case aS => exact (below_size bl_)); (case aL => have := LMc8.out; omega); intro v227 w11 ho0 hb hg; have ho := Kd.R_of_own (h1 := fun _ => rfl) (ok := fun _ => True) ho0 (fun _ _ => trivial); clear ho0; have hat := True.intro; rw [← Ny226.out] at ho; change Kd.R (Kd.int .u8) 5 w11 w.heap.size (fun _ => True) v227 y226 at ho; have HO228 := Aside0.mk (ho); replace HB := Aside0.mk (hb); clear HO_5; clear ho hb hg hat; have p229 : 0 ≤ (x6_1 : Int) := ae_; have q229 : x6_1 < (l1.length : Int) := ae_; obtain ⟨ad229, e229, hx229_0⟩ := Kd.at_string HR1.out x6_1 p229 q229; obtain rfl : ad223 = ad229 := (by injection e229); replace hx229_0 := (HB.out.cell (World.block_lt_of_cell? w _ hx229_0)).trans hx229_0; replace p229 := eq_true p229; replace q229 := eq_true q229) | (at_builtin; refine print_append_str (w0 := w) w.heap.size rfl (.tmp 33) _ 39 9 5 rfl Tryz.underlying39 Tryz.underlying9 info5 v227 y226 (rdOf ByteArray.empty l1 x6_1) rfl rfl ?aO ?aB ?aS ?aL ?_; (case aB => exact bl_); (case aO => exact (Kd.own_of_R (mv_ HO228.out))); (case aS => exact (below_size bl_)); (case aL => have := LMc9.out; omega); intro v231 w12 ho0 hb hg; have ho := Kd.R_of_own (h1 := fun _ => rfl) (ok := fun _ => True) ho0 (fun _ _ => trivial); clear ho0; have hat := True.intro; rw [← Ny230.out] at ho; change Kd.R (Kd.int .u8) 5 w12 w.heap.size (fun _ => True) v231 y230 at ho; have HO232 := Aside0.mk (ho); replace HB := Aside0.mk (hb); clear HO228; clear ho hb hg hat))
    go_roundg k1
    case measure => have := HK1.out; omega
    case rel => exact ⟨(y230), (wrap64 (x6_1 + 1)), vq_, H', ⟨by have := HK1.out; omega⟩, ⟨mv_ HO232.out⟩, ⟨bl_⟩⟩
   rw [if_neg c5] at H
   have c5b0 : decide (x6_1 < (l1.length : Int)) = false := decide_eq_false c5
   clear c5
   obtain rfl := Option.some.inj H
   have hcv13 := own_string (P := Tryz.prog) Tryz.underlying39 Tryz.underlying5 Tryz.underlying9 (Kd.own_of_R HO_5.out)
   go_wp2
   go_ret
   exact ⟨er_, bl_⟩

/-! ### palaverref02_Starts: function 91 -/
def palaverref02_Starts.f : Option Unit := some ()
set_option maxHeartbeats 8000000 in
set_option maxRecDepth 100000 in
theorem palaverref02_Starts.calls (w : World) (h : palaverref02_Starts.f = some ()) :
    Calls Tryz.prog 91 #[] w fun e w' => e = .returned (.agg #[.int .u32 1779033703, .int .u32 3144134277, .int .u32 1013904242, .int .u32 2773480762, .int .u32 1359893119, .int .u32 2600822924, .int .u32 528734635, .int .u32 1541459225]) ∧ Below w.heap.size w w' := by
  go_enter Tryz.func91, Tryz.ntmps91
  go_wp2_with (first
    | ((with_reducible refine gate_dst (N := 0) rfl ?_); refine Kd.event_run (w1 := w.alloc (.cells (encs (Value.int .u32) (List.replicate 8 0)).toArray 130)) (v := .pointer (some ⟨w.heap.size, 0, none⟩)) ?hg ?hr ?_; (case hg => rfl); (case hr => first | (go_simp; done) | (go_simp; rfl)); obtain ⟨W1, hW1⟩ : ∃ W1, W1 = w.alloc (.cells (encs (Value.int .u32) (List.replicate 8 0)).toArray 130) := ⟨_, rfl⟩; rw [← hW1]; have hh : W1.heap[w.heap.size]? = some (.cells (encs (Value.int .u32) (List.replicate 8 0)).toArray 130 (0, 0)) := (by rw [hW1]; exact heap_alloc_new w _); have hb : Below w.heap.size w W1 := (by rw [hW1]; exact below_alloc (Below.refl _ _) _); clear hW1)
    | ((with_reducible refine gate_store (t := 130) (p := 0) rfl ?_); refine store_event (t := 130) (p := 0) (v := ?vo) (w1 := W1.setCells w.heap.size 0 (encs (Value.int .u32) [1779033703, 3144134277, 1013904242, 2773480762, 1359893119, 2600822924, 528734635, 1541459225])) ?hg ?ho ?hn ?hr ?_; (case ho => rfl); (case hg => rfl); (case hn => rfl); (case hr => exact store_run0 [1779033703, 3144134277, 1013904242, 2773480762, 1359893119, 2600822924, 528734635, 1541459225] rfl rfl rfl (by kernel_rfl) hh (by rfl)); intro W2 hw; have hh2 := store_heap0 (encs (Value.int .u32) [1779033703, 3144134277, 1013904242, 2773480762, 1359893119, 2600822924, 528734635, 1541459225]) hh (by rfl); have hb2 := store_below0 (encs (Value.int .u32) [1779033703, 3144134277, 1013904242, 2773480762, 1359893119, 2600822924, 528734635, 1541459225]) hb (Nat.le_refl _); rw [← hw] at hh2 hb2; clear hw hh hb))
  (try simp only [Exit.inBlock, Exit.then])
  refine bodyPost_ret (results_cell_row rfl _ _ w.heap.size 130 (encs (Value.int .u32) [1779033703, 3144134277, 1013904242, 2773480762, 1359893119, 2600822924, 528734635, 1541459225]).toArray (0, 0) _ rfl hh2 Tryz.underlying130 rfl (by kernel_rfl)) rfl ?_
  exact ⟨rfl, hb2⟩

/-! ### palaverref02_table: function 92 -/
def palaverref02_table.f : Option Unit := some ()
set_option maxHeartbeats 8000000 in
set_option maxRecDepth 100000 in
theorem palaverref02_table.calls (w : World) (h : palaverref02_table.f = some ()) :
    Calls Tryz.prog 92 #[] w fun e w' => e = .returned (.agg #[.int .u32 1116352408, .int .u32 1899447441, .int .u32 3049323471, .int .u32 3921009573, .int .u32 961987163, .int .u32 1508970993, .int .u32 2453635748, .int .u32 2870763221, .int .u32 3624381080, .int .u32 310598401, .int .u32 607225278, .int .u32 1426881987, .int .u32 1925078388, .int .u32 2162078206, .int .u32 2614888103, .int .u32 3248222580, .int .u32 3835390401, .int .u32 4022224774, .int .u32 264347078, .int .u32 604807628, .int .u32 770255983, .int .u32 1249150122, .int .u32 1555081692, .int .u32 1996064986, .int .u32 2554220882, .int .u32 2821834349, .int .u32 2952996808, .int .u32 3210313671, .int .u32 3336571891, .int .u32 3584528711, .int .u32 113926993, .int .u32 338241895, .int .u32 666307205, .int .u32 773529912, .int .u32 1294757372, .int .u32 1396182291, .int .u32 1695183700, .int .u32 1986661051, .int .u32 2177026350, .int .u32 2456956037, .int .u32 2730485921, .int .u32 2820302411, .int .u32 3259730800, .int .u32 3345764771, .int .u32 3516065817, .int .u32 3600352804, .int .u32 4094571909, .int .u32 275423344, .int .u32 430227734, .int .u32 506948616, .int .u32 659060556, .int .u32 883997877, .int .u32 958139571, .int .u32 1322822218, .int .u32 1537002063, .int .u32 1747873779, .int .u32 1955562222, .int .u32 2024104815, .int .u32 2227730452, .int .u32 2361852424, .int .u32 2428436474, .int .u32 2756734187, .int .u32 3204031479, .int .u32 3329325298]) ∧ Below w.heap.size w w' := by
  go_enter Tryz.func92, Tryz.ntmps92
  go_wp2_with (first
    | ((with_reducible refine gate_dst (N := 0) rfl ?_); refine Kd.event_run (w1 := w.alloc (.cells (encs (Value.int .u32) (List.replicate 64 0)).toArray 132)) (v := .pointer (some ⟨w.heap.size, 0, none⟩)) ?hg ?hr ?_; (case hg => rfl); (case hr => first | (go_simp; done) | (go_simp; rfl)); obtain ⟨W1, hW1⟩ : ∃ W1, W1 = w.alloc (.cells (encs (Value.int .u32) (List.replicate 64 0)).toArray 132) := ⟨_, rfl⟩; rw [← hW1]; have hh : W1.heap[w.heap.size]? = some (.cells (encs (Value.int .u32) (List.replicate 64 0)).toArray 132 (0, 0)) := (by rw [hW1]; exact heap_alloc_new w _); have hb : Below w.heap.size w W1 := (by rw [hW1]; exact below_alloc (Below.refl _ _) _); clear hW1)
    | ((with_reducible refine gate_store (t := 132) (p := 0) rfl ?_); refine store_event (t := 132) (p := 0) (v := ?vo) (w1 := W1.setCells w.heap.size 0 (encs (Value.int .u32) [1116352408, 1899447441, 3049323471, 3921009573, 961987163, 1508970993, 2453635748, 2870763221, 3624381080, 310598401, 607225278, 1426881987, 1925078388, 2162078206, 2614888103, 3248222580, 3835390401, 4022224774, 264347078, 604807628, 770255983, 1249150122, 1555081692, 1996064986, 2554220882, 2821834349, 2952996808, 3210313671, 3336571891, 3584528711, 113926993, 338241895, 666307205, 773529912, 1294757372, 1396182291, 1695183700, 1986661051, 2177026350, 2456956037, 2730485921, 2820302411, 3259730800, 3345764771, 3516065817, 3600352804, 4094571909, 275423344, 430227734, 506948616, 659060556, 883997877, 958139571, 1322822218, 1537002063, 1747873779, 1955562222, 2024104815, 2227730452, 2361852424, 2428436474, 2756734187, 3204031479, 3329325298])) ?hg ?ho ?hn ?hr ?_; (case ho => rfl); (case hg => rfl); (case hn => rfl); (case hr => exact store_run0 [1116352408, 1899447441, 3049323471, 3921009573, 961987163, 1508970993, 2453635748, 2870763221, 3624381080, 310598401, 607225278, 1426881987, 1925078388, 2162078206, 2614888103, 3248222580, 3835390401, 4022224774, 264347078, 604807628, 770255983, 1249150122, 1555081692, 1996064986, 2554220882, 2821834349, 2952996808, 3210313671, 3336571891, 3584528711, 113926993, 338241895, 666307205, 773529912, 1294757372, 1396182291, 1695183700, 1986661051, 2177026350, 2456956037, 2730485921, 2820302411, 3259730800, 3345764771, 3516065817, 3600352804, 4094571909, 275423344, 430227734, 506948616, 659060556, 883997877, 958139571, 1322822218, 1537002063, 1747873779, 1955562222, 2024104815, 2227730452, 2361852424, 2428436474, 2756734187, 3204031479, 3329325298] rfl rfl rfl (by kernel_rfl) hh (by rfl)); intro W2 hw; have hh2 := store_heap0 (encs (Value.int .u32) [1116352408, 1899447441, 3049323471, 3921009573, 961987163, 1508970993, 2453635748, 2870763221, 3624381080, 310598401, 607225278, 1426881987, 1925078388, 2162078206, 2614888103, 3248222580, 3835390401, 4022224774, 264347078, 604807628, 770255983, 1249150122, 1555081692, 1996064986, 2554220882, 2821834349, 2952996808, 3210313671, 3336571891, 3584528711, 113926993, 338241895, 666307205, 773529912, 1294757372, 1396182291, 1695183700, 1986661051, 2177026350, 2456956037, 2730485921, 2820302411, 3259730800, 3345764771, 3516065817, 3600352804, 4094571909, 275423344, 430227734, 506948616, 659060556, 883997877, 958139571, 1322822218, 1537002063, 1747873779, 1955562222, 2024104815, 2227730452, 2361852424, 2428436474, 2756734187, 3204031479, 3329325298]) hh (by rfl); have hb2 := store_below0 (encs (Value.int .u32) [1116352408, 1899447441, 3049323471, 3921009573, 961987163, 1508970993, 2453635748, 2870763221, 3624381080, 310598401, 607225278, 1426881987, 1925078388, 2162078206, 2614888103, 3248222580, 3835390401, 4022224774, 264347078, 604807628, 770255983, 1249150122, 1555081692, 1996064986, 2554220882, 2821834349, 2952996808, 3210313671, 3336571891, 3584528711, 113926993, 338241895, 666307205, 773529912, 1294757372, 1396182291, 1695183700, 1986661051, 2177026350, 2456956037, 2730485921, 2820302411, 3259730800, 3345764771, 3516065817, 3600352804, 4094571909, 275423344, 430227734, 506948616, 659060556, 883997877, 958139571, 1322822218, 1537002063, 1747873779, 1955562222, 2024104815, 2227730452, 2361852424, 2428436474, 2756734187, 3204031479, 3329325298]) hb (Nat.le_refl _); rw [← hw] at hh2 hb2; clear hw hh hb))
  (try simp only [Exit.inBlock, Exit.then])
  refine bodyPost_ret (results_cell_row rfl _ _ w.heap.size 132 (encs (Value.int .u32) [1116352408, 1899447441, 3049323471, 3921009573, 961987163, 1508970993, 2453635748, 2870763221, 3624381080, 310598401, 607225278, 1426881987, 1925078388, 2162078206, 2614888103, 3248222580, 3835390401, 4022224774, 264347078, 604807628, 770255983, 1249150122, 1555081692, 1996064986, 2554220882, 2821834349, 2952996808, 3210313671, 3336571891, 3584528711, 113926993, 338241895, 666307205, 773529912, 1294757372, 1396182291, 1695183700, 1986661051, 2177026350, 2456956037, 2730485921, 2820302411, 3259730800, 3345764771, 3516065817, 3600352804, 4094571909, 275423344, 430227734, 506948616, 659060556, 883997877, 958139571, 1322822218, 1537002063, 1747873779, 1955562222, 2024104815, 2227730452, 2361852424, 2428436474, 2756734187, 3204031479, 3329325298]).toArray (0, 0) _ rfl hh2 Tryz.underlying132 rfl (by kernel_rfl)) rfl ?_
  exact ⟨rfl, hb2⟩

end Go.Proofs.YtnfbagkeenjifaaGreatDoor.PP
