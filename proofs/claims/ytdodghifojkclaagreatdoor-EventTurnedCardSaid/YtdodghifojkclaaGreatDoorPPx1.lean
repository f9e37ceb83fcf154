-- WRITTEN BY a program of this work (wip/ownprint.py), for this seat
import Derived.Test.YtdodghifojkclaaGreatDoorPPx0
namespace Go.Proofs.YtdodghifojkclaaGreatDoor.PP
open Go.RowKit Go.Proofs.YtdodghifojkclaaGreatDoorW.PrintWords Go.Proofs.YtdodghifojkclaaGreatDoorW.PrintLast Go.Proofs.YtdodghifojkclaaGreatDoorW.PrintMore
attribute [local go_sem] max2_int min2_int max_two min_two max_three min_three max_four min_four   -- for this text's walks alone
set_option linter.unusedVariables false
set_option linter.unusedSimpArgs false

/-! ### Jr = octets_laid: function 80 -/
mutual
def Jr.j0 : Nat → Int → Int → Bool → Option (ByteArray × Bool)
 | 0, _, _, _ => none
 | k + 1, x0, x1, x16 => if x16 = true then (some ((⟨#[]⟩ : ByteArray), false)) else (if 0 ≤ x1 then (if (x1 : Int).toNat ≤ 281474976710656 then ((some (List.replicate (x1 : Int).toNat 0 : List Int)).bind fun y101 => (Jr.l0 k x0 x1 y101 (y101.length : Int) 0)) else (none)) else (none))
def Jr.l0 : Nat → Int → Int → List Int → Int → Int → Option (ByteArray × Bool)
 | 0, _, _, _, _, _ => none
 | k + 1, x0, x1, x6, x20, x21 => if x21 < x20 then (if 0 ≤ (wrap64 (8 * x21)) then (if 0 ≤ (wrap64 ((wrap64 (x1 - 1)) - x21)) then (if (wrap64 ((wrap64 (x1 - 1)) - x21)) < (x6.length : Int) then (Jr.l0 k x0 x1 (x6.set ((wrap64 ((wrap64 (x1 - 1)) - x21)) : Int).toNat ((shr .i64 x0 (wrap64 (8 * x21))) % 256)) x20 (wrap64 (x21 + 1))) else (none)) else (none)) else (none)) else (some (strOfNums x6, true))
end
def Jr.f (k : Nat) (a0 : Int) (a1 : Int) : Option (ByteArray × Bool) := if a0 < 0 then (Jr.j0 k a0 a1 true) else (if 0 ≤ (wrap64 (8 * a1)) then (Jr.j0 k a0 a1 ((shr .i64 a0 (wrap64 (8 * a1))) != 0)) else (none))
set_option maxHeartbeats 64000000 in
set_option maxRecDepth 100000 in
theorem Jr.calls (k : Nat) (a0 : Int) (a1 : Int) (r1 : ByteArray) (r2 : Bool) (w : World) (h : Jr.f k a0 a1 = some (r1, r2)) :
 Calls Tryz.prog 80 #[.int .i64 a0, .int .i64 a1] w fun e w' => e = .returned (.tuple #[.string r1, .bool r2]) ∧ Below w.heap.size w w' := by
 have HB := Aside0.mk (Below.refl w.heap.size w)
 have H : (if a0 < 0 then (Jr.j0 k a0 a1 true) else (if 0 ≤ (wrap64 (8 * a1)) then (Jr.j0 k a0 a1 ((shr .i64 a0 (wrap64 (8 * a1))) != 0)) else (none))) = some (r1, r2) := h
 clear h
 have HC3 := Aside0.mk H
 clear H
 go_enter Tryz.func80, Tryz.ntmps80
 go_upto_region 1 with (fail)
 go_cut [16] (fun v16 wc => ∃ (kq : Nat) (x16_2 : Bool), v16 = .bool x16_2 ∧ Aside0 (Jr.j0 kq a0 a1 x16_2 = some (r1, r2)) ∧ Aside0 (kq ≤ k) ∧ Aside0 (Below w.heap.size w wc))
 case first =>
  have H := HC3.out
  clear HC3
  by_cases c4 : a0 < 0
  ·rw [if_pos c4] at H
   have c4b0 : decide (a0 < 0) = true := decide_eq_true c4
   clear c4
   (first | rw [c4b0] | (simp only [i64_w, i32_w]; rw [c4b0]) | skip)
   have H' := Aside0.mk H
   clear H
   go_wp2
   go_meet
   case rel => exact ⟨_, (true), vq_, H', ⟨by first | omega | exact Nat.le_refl _⟩, ⟨bl_⟩⟩
  rw [if_neg c4] at H
  have c4b0 : decide (a0 < 0) = false := decide_eq_false c4
  clear c4
  (first | rw [c4b0] | (simp only [i64_w, i32_w]; rw [c4b0]) | skip)
  generalize hji5 : (wrap64 (8 * a1)) = ji5 at H
  have hji5w := (i64_w _).trans hji5
  revert H; refine ne_ fun c6 c6b0 c6b1 H => ?_
  clear c6
  generalize hji7 : (shr .i64 a0 (ji5)) = ji7 at H
  have hji7_ : (a0 / 2 ^ min (ji5).toNat 64) = ji7 := hji7
  have hji7z : (ji5) ≤ 64 → (a0 / 2 ^ (ji5).toNat) = ji7 := shr_small hji7
  have H' := Aside0.mk H
  clear H
  go_wp2
  go_meet
  case rel => exact ⟨_, (((ji7) != 0)), (by first | rfl | (simp; done) | (simp only [← hji7] <;> (first | rfl | simp)) | (simp [*]; done) | exact congrArg Value.bool (nonempty_l _) | (refine congrArg (Value.int _) ?_; first | omega | (unfold wrap64; omega))), H', ⟨by first | omega | exact Nat.le_refl _⟩, ⟨bl_⟩⟩
 case rest =>
  clear HC3
  obtain ⟨kq, x16_2, rfl, HA, HJ2, HB⟩ := hcut
  cases kq with
  | zero => exact absurd HA.out (by simp [Jr.j0])
  | succ kj2 =>
   have H := HA.out
   clear HA
   simp only [Jr.j0] at H
   by_cases c8 : x16_2 = true
   ·subst c8
    have H1 : (some ((⟨#[]⟩ : ByteArray), false)) = some (r1, r2) := by rw [if_pos rfl] at H; exact H
    clear H
    have H := H1
    clear H1
    simp only [Option.some.injEq, Prod.mk.injEq] at H
    obtain ⟨rfl, rfl⟩ := H
    go_wp2
    go_ret2
    exact ⟨er_, bl_⟩
   replace c8 := Bool.eq_false_iff.mpr c8
   subst c8
   have H1 : (if 0 ≤ a1 then (if (a1 : Int).toNat ≤ 281474976710656 then ((some (List.replicate (a1 : Int).toNat 0 : List Int)).bind fun y101 => (Jr.l0 kj2 a0 a1 y101 (y101.length : Int) 0)) else (none)) else (none)) = some (r1, r2) := by rw [if_neg (show ¬ (false = true) by decide)] at H; exact H
   clear H
   have H := H1
   clear H1
   revert H; refine ne_ fun c9 c9b0 c9b1 => ne_ fun c10 c10b0 c10b1 => oy_ fun y101 Ny101 H => ?_
   clear c9 c10
   have H' := Aside0.mk H
   clear H
   go_wp2_with (first | ((with_reducible refine gate_dst (N := 18) rfl ?_); refine Kd.R_make (Kd.int .u8) _ 5 rfl (N := 18) rfl 68 _ _ rfl a1 rfl rfl Tryz.underlying68 (.int .u8 0) 1 info5 rfl (by decide) (by omega) 0 (ok := fun _ => True) (okp := fun _ => True) rfl (fun _ hk => hk) trivial (ae_) (Nat.le_trans (Nat.mul_le_mul_right _ (ae_ : a1.toNat ≤ 281474976710656)) (by omega)) (Below.refl _ _) (Nat.le_refl _) ?_; intro v102 w11 ho12 hb hg_ hnew_; clear hg_ hnew_; (first | rw [← Ny101.out] at ho12 | (simp only [Int.reduceToNat] at ho12; rw [← Ny101.out] at ho12)); have HO103 := Aside0.mk (Kd.R_lower ho12 (below_size bl_)); replace HB := Aside0.mk (below_step bl_ hb); clear hb ho12; obtain ⟨Ao13, co13, eo13⟩ := Kd.R_slice HO103.out; subst eo13))
   go_loopg [21] kj2 (fun kq v21 w' => ∃ (x6_2 : List Int) (x21_2 : Int), v21 = .int .i64 x21_2 ∧ Aside0 (Jr.l0 kq a0 a1 x6_2 (y101.length : Int) x21_2 = some (r1, r2)) ∧ Aside0 (kq ≤ kj2) ∧ Aside0 (Kd.R (Kd.int .u8) 5 w' w.heap.size (fun _ => True) (.slice Ao13 y101.length co13) x6_2) ∧ Aside0 (Below w.heap.size w w'))
   case atStart => exact ⟨(y101), (0), vq_, H', ⟨Nat.le_refl _⟩, ⟨mv_ HO103.out⟩, ⟨bl_⟩⟩
   case round =>
    clear H'
    clear c9b0 c9b1 c10b0 c10b1
    obtain ⟨x6_2, x21_2, rfl, HA, HK2, HO_6, HB⟩ := hrel
    have hl6_2 := (Kd.R_reads' HO_6.out).1
    rw [hl6_2] at HO_6
    simp only [hl6_2]
    cases gk with
    | zero => exact absurd HA.out (by simp [Jr.l0])
    | succ k2 =>
     have H := HA.out
     clear HA
     simp only [Jr.l0] at H
     by_cases c14 : x21_2 < (y101.length : Int)
     ·rw [if_pos c14] at H
      have c14b0 : decide (x21_2 < (y101.length : Int)) = true := decide_eq_true c14
      (have c14b7 := c14b0; simp only [hl6_2] at c14b7)
      clear c14
      generalize hji15 : (wrap64 (8 * x21_2)) = ji15 at H
      have hji15w := (i64_w _).trans hji15
      revert H; refine ne_ fun c16 c16b0 c16b1 H => ?_
      clear c16
      generalize hji17 : (shr .i64 a0 (ji15)) = ji17 at H
      have hji17_ : (a0 / 2 ^ min (ji15).toNat 64) = ji17 := hji17
      have hji17z : (ji15) ≤ 64 → (a0 / 2 ^ (ji15).toNat) = ji17 := shr_small hji17
      generalize hji18 : (wrap64 ((wrap64 (a1 - 1)) - x21_2)) = ji18 at H
      have hji18w := (i64_w _).trans hji18
      revert H; refine nd_ fun c19 c19b0 => nd_ fun c20 c20b0 H => ?_
      clear c19 c20
      generalize e_ : (x6_2.set ((ji18) : Int).toNat ((ji17) % 256) : List Int) = y104 at H
      have Ny104 := Aside0.mk e_.symm
      clear e_
      have H' := Aside0.mk H
      clear H
      have p21 : 0 ≤ ((ji18) : Int) := ae_
      have q21 : ((ji18) : Int) < ((x6_2.length : Int) : Int) := ae_
      obtain ⟨go21, co21, eo21, gb21, gl21, cl21, HG21⟩ := Kd.R_form HO_6.out (by omega)
      (first | cases eo21 | (injection eo21 with ea_ en_ ec_; (first | subst ea_ | (injection ea_ with ea_; subst ea_)); subst ec_; clear en_))
      have GB21 := Aside0.mk gb21
      have GG21 := Aside0.mk HG21
      clear gb21 gl21 HG21
      obtain ⟨hx21_0, hf21_0⟩ := Kd.R_celln 0 HO_6.out ((ji18) : Int) p21 q21
      replace p21 := eq_true p21
      replace q21 := eq_true q21
      have HP22 := Kd.R_putg HO_6.out ((ji18) : Int) ((ji17) % 256)
      go_wp2_with (first | ((with_reducible refine gate_store (t := 5) (p := 34) rfl ?_); refine store_event (t := 5) (p := 34) (v := ?vo_w23) (w1 := (wr.setCell ⟨go21, ((ji18) : Int).toNat, none⟩ (.int .u8 ((ji17) % 256)))) ?hg ?ho ?hn ?hr ?_; (case ho => rfl); (case hg => rfl); (case hn => rfl); (case hr => exact gr_); intro w23 hw; have hg : wr.grownBy w23 (some go21) := (by rw [hw]; exact HP22.2); have hp_ : Kd.R (Kd.int .u8) 5 w23 w.heap.size (fun _ => True) (.slice (some ⟨go21, 0, none⟩) x6_2.length co13) y104 := (by rw [hw, Ny104.out]; exact HP22.1); clear HP22; replace HB := Aside0.mk ((by rw [hw]; exact below_set (HB.out) GB21.out : Below w.heap.size w w23)); replace HO_6 := Aside0.mk (hp_); clear hg hw hp_))
      simp only [← hl6_2]
      go_roundg k2
      case measure => have := HJ2.out; have := HK2.out; omega
      case rel => exact ⟨(y104), (wrap64 (x21_2 + 1)), vq_, H', ⟨by have := HJ2.out; have := HK2.out; omega⟩, ⟨by (simp only [hl6_2]); refine mv_ ?_; exact HO_6.out⟩, ⟨bl_⟩⟩
     rw [if_neg c14] at H
     have c14b0 : decide (x21_2 < (y101.length : Int)) = false := decide_eq_false c14
     (have c14b7 := c14b0; simp only [hl6_2] at c14b7)
     clear c14
     simp only [Option.some.injEq, Prod.mk.injEq] at H
     obtain ⟨rfl, rfl⟩ := H
     have hcv24 := own_string (P := Tryz.prog) Tryz.underlying68 Tryz.underlying5 Tryz.underlying9 (Kd.own_of_R HO_6.out)
     go_wp2
     go_ret2
     exact ⟨er_, bl_⟩

/-! ### Uj = octets_Short: function 51 -/
def Uj.f (k : Nat) (a0 : Int) : Option (ByteArray × Bool) := (Jr.f k a0 2).bind fun bt105 => (some (bt105.1, bt105.2))
set_option maxHeartbeats 64000000 in
set_option maxRecDepth 100000 in
theorem Uj.calls (k : Nat) (a0 : Int) (r1 : ByteArray) (r2 : Bool) (w : World) (h : Uj.f k a0 = some (r1, r2)) :
 Calls Tryz.prog 51 #[.int .i64 a0] w fun e w' => e = .returned (.tuple #[.string r1, .bool r2]) ∧ Below w.heap.size w w' := by
 have HB := Aside0.mk (Below.refl w.heap.size w)
 have H : ((Jr.f k a0 2).bind fun bt105 => (some (bt105.1, bt105.2))) = some (r1, r2) := h
 clear h
 replace H := ob_ H
 obtain ⟨⟨t105, t106⟩, A20, H⟩ := H
 replace H : (some (t105, t106)) = some (r1, r2) := H
 have A2 := Aside0.mk A20
 clear A20
 simp only [Option.some.injEq, Prod.mk.injEq] at H
 obtain ⟨rfl, rfl⟩ := H
 go_enter Tryz.func51, Tryz.ntmps51
 go_wp2_with (first | ((with_reducible refine gate_callee (f := 80) rfl ?_); refine gL_ 5 Tryz.func80 #[.int .i64 a0, .int .i64 2] ?_; (with_reducible refine (Jr.calls k a0 2 t105 t106 _ A2.out).mono ?_); rintro e w3 ⟨rfl, hb⟩; refine ⟨_, rfl, ?_⟩; replace HB := Aside0.mk (below_step bl_ hb); clear hb))
 go_ret2
 exact ⟨er_, bl_⟩

/-! ### Um = octets_Text: function 43 -/
def Um.f (k : Nat) (a0 : ByteArray) : Option (ByteArray × Bool) := if (a0.size : Int) > 65535 then (some ((⟨#[]⟩ : ByteArray), false)) else ((Uj.f k (a0.size : Int)).bind fun bt107 => (if bt107.1.size + a0.size ≤ 9223372036854775807 then (some (bt107.1 ++ a0, true)) else (none)))
set_option maxHeartbeats 64000000 in
set_option maxRecDepth 100000 in
theorem Um.calls (k : Nat) (a0 : ByteArray) (r1 : ByteArray) (r2 : Bool) (w : World) (h : Um.f k a0 = some (r1, r2)) :
 Calls Tryz.prog 43 #[.string a0] w fun e w' => e = .returned (.tuple #[.string r1, .bool r2]) ∧ Below w.heap.size w w' := by
 have HB := Aside0.mk (Below.refl w.heap.size w)
 have H : (if (a0.size : Int) > 65535 then (some ((⟨#[]⟩ : ByteArray), false)) else ((Uj.f k (a0.size : Int)).bind fun bt107 => (if bt107.1.size + a0.size ≤ 9223372036854775807 then (some (bt107.1 ++ a0, true)) else (none)))) = some (r1, r2) := h
 clear h
 by_cases c2 : (a0.size : Int) > 65535
 ·rw [if_pos c2] at H
  have c2b0 : decide (65535 < (a0.size : Int)) = true := decide_eq_true c2
  have c2b1 : decide (65535 < a0.size) = true := decide_eq_true (by omega)
  clear c2
  simp only [Option.some.injEq, Prod.mk.injEq] at H
  obtain ⟨rfl, rfl⟩ := H
  go_enter Tryz.func43, Tryz.ntmps43
  go_wp2
  go_ret2
  exact ⟨er_, bl_⟩
 rw [if_neg c2] at H
 have c2b0 : decide (65535 < (a0.size : Int)) = false := decide_eq_false c2
 have c2b1 : decide (65535 < a0.size) = false := decide_eq_false (by omega)
 clear c2
 replace H := ob_ H
 obtain ⟨⟨t107, t108⟩, A30, H⟩ := H
 replace H : (if t107.size + a0.size ≤ 9223372036854775807 then (some (t107 ++ a0, true)) else (none)) = some (r1, r2) := H
 have A3 := Aside0.mk A30
 clear A30
 revert H; refine ne_ fun c4 c4b0 c4b1 H => ?_
 try have c4b2 : (9223372036854775807 < t107.size + a0.size) = False := eq_false (Nat.not_lt.2 c4)
 simp only [Option.some.injEq, Prod.mk.injEq] at H
 obtain ⟨rfl, rfl⟩ := H
 go_enter Tryz.func43, Tryz.ntmps43
 go_wp2_with (first | ((with_reducible refine gate_callee (f := 51) rfl ?_); refine gL_ 12 Tryz.func51 #[.int .i64 (a0.size : Int)] ?_; (with_reducible refine (Uj.calls k (a0.size : Int) t107 t108 _ A3.out).mono ?_); rintro e w5 ⟨rfl, hb⟩; refine ⟨_, rfl, ?_⟩; replace HB := Aside0.mk (below_step bl_ hb); clear hb))
 go_ret2
 exact ⟨er_, bl_⟩

/-! ### Ji = palaverref06_Great: function 5 -/
mutual
def Ji.j0 : Nat → Bool → Int → ByteArray → List ByteArray → ByteArray → ByteArray → Option (Bool)
 | 0, _, _, _, _, _, _ => none
 | k + 1, x31, x110000, x110001, x110002, x110003, x110004 => if x31 = true then (some true) else (Ji.l0 k 0 x110000 x110001 x110002 x110003 x110004)
def Ji.l0 : Nat → Int → Int → ByteArray → List ByteArray → ByteArray → ByteArray → Option (Bool)
 | 0, _, _, _, _, _, _ => none
 | k + 1, x3, x110000, x110001, x110002, x110003, x110004 => if x3 < (x110002.length : Int) then (if 0 ≤ x3 then (if ((rdOf ByteArray.empty x110002 x3).size : Int) > 300 then (some true) else (Ji.l0 k (wrap64 (x3 + 1)) x110000 x110001 x110002 x110003 x110004)) else (none)) else (some false)
end
def Ji.f (k : Nat) (a0_0 : Int) (a0_1 : ByteArray) (l0_2 : List ByteArray) (a0_3 : ByteArray) (a0_4 : ByteArray) : Option (Bool) := if (a0_1.size : Int) > 300 then (Ji.j0 k true a0_0 a0_1 l0_2 a0_3 a0_4) else (if (a0_3.size : Int) > 500 then (Ji.j0 k true a0_0 a0_1 l0_2 a0_3 a0_4) else (if (a0_4.size : Int) > 3000 then (if (a0_4.size : Int) ≤ 65535 then (Ji.j0 k true a0_0 a0_1 l0_2 a0_3 a0_4) else (Ji.j0 k (decide ((l0_2.length : Int) > 20)) a0_0 a0_1 l0_2 a0_3 a0_4)) else (Ji.j0 k (decide ((l0_2.length : Int) > 20)) a0_0 a0_1 l0_2 a0_3 a0_4)))
set_option maxHeartbeats 64000000 in
set_option maxRecDepth 100000 in
theorem Ji.calls (k : Nat) (a0_0 : Int) (a0_1 : ByteArray) (A0_2 : Option Addr) (c0_2 : Nat) (l0_2 : List ByteArray) (a0_3 : ByteArray) (a0_4 : ByteArray) (r : Bool) (w : World) (hr0_2 : Kd.C Kd.string w A0_2 l0_2.length l0_2) (hc0_2 : l0_2.length ≤ c0_2) (h : Ji.f k a0_0 a0_1 l0_2 a0_3 a0_4 = some r) :
 Calls Tryz.prog 5 #[.agg #[.int .i64 a0_0, .string a0_1, .slice A0_2 l0_2.length c0_2, .string a0_3, .string a0_4]] w fun e w' => e = .returned (.bool r) ∧ Below w.heap.size w w' := by
 have hu24 := Tryz.underlying24
 have HR0_2 := Aside0.mk hr0_2
 have HC0_2 := Aside0.mk hc0_2
 clear hr0_2 hc0_2
 have HB := Aside0.mk (Below.refl w.heap.size w)
 have H : (if (a0_1.size : Int) > 300 then (Ji.j0 k true a0_0 a0_1 l0_2 a0_3 a0_4) else (if (a0_3.size : Int) > 500 then (Ji.j0 k true a0_0 a0_1 l0_2 a0_3 a0_4) else (if (a0_4.size : Int) > 3000 then (if (a0_4.size : Int) ≤ 65535 then (Ji.j0 k true a0_0 a0_1 l0_2 a0_3 a0_4) else (Ji.j0 k (decide ((l0_2.length : Int) > 20)) a0_0 a0_1 l0_2 a0_3 a0_4)) else (Ji.j0 k (decide ((l0_2.length : Int) > 20)) a0_0 a0_1 l0_2 a0_3 a0_4)))) = some r := h
 clear h
 have HC2 := Aside0.mk H
 clear H
 go_enter Tryz.func5, Tryz.ntmps5
 go_upto_region 1 with (first | ((with_reducible refine gate_dst (N := 1) rfl ?_); ((refine gate_guard (by rfl) ?_; dsimp only)); refine box_event ?hg (N := 1) ?hd (cs := #[.int .i64 a0_0, .string a0_1, .slice A0_2 l0_2.length c0_2, .string a0_3, .string a0_4]) (t := 24) ?hr ?_; (case hd => rfl); (case hg => rfl); (case hr => exact gr_); intro gb109 hg w3 hbox hb; have GE109 := Aside0.mk ((by rw [hg]; exact (below_size bl_) : w.heap.size ≤ gb109)); have GW109 := Aside0.mk ((by rw [hg]; exact (below_size bl_) : w.heap.size ≤ gb109)); have BK109 := Aside0.mk (hbox); replace HB := Aside0.mk (below_step bl_ hb); clear hb hbox hg))
 go_cut [31] (fun v31 wc => ∃ (kq : Nat) (x31_1 : Bool), v31 = .bool x31_1 ∧ Aside0 (Ji.j0 kq x31_1 a0_0 a0_1 l0_2 a0_3 a0_4 = some r) ∧ Aside0 (kq ≤ k) ∧ Aside0 (wc.heap[gb109]? = some (.cells #[.int .i64 a0_0, .string a0_1, (.slice A0_2 l0_2.length c0_2), .string a0_3, .string a0_4] 24 (0, 0))) ∧ Aside0 (Below w.heap.size w wc))
 case first =>
  have H := HC2.out
  clear HC2
  by_cases c4 : (a0_1.size : Int) > 300
  ·rw [if_pos c4] at H
   have c4b0 : decide (300 < (a0_1.size : Int)) = true := decide_eq_true c4
   have c4b1 : decide (300 < a0_1.size) = true := decide_eq_true (by omega)
   clear c4
   (first | rw [c4b0] | (simp only [i64_w, i32_w]; rw [c4b0]) | skip)
   have H' := Aside0.mk H
   clear H
   obtain ⟨hcz5_0, hcz5_1, hcz5_2, hcz5_3, hcz5_4⟩ := c5_ BK109.out
   obtain ⟨hfz5_0, hfz5_1, hfz5_2, hfz5_3, hfz5_4⟩ := f5_ BK109.out
   go_wp2
   go_meet
   case rel => exact ⟨_, (true), vq_, H', ⟨by first | omega | exact Nat.le_refl _⟩, ⟨mb_ BK109.out⟩, ⟨bs_ GE109.out⟩⟩
  rw [if_neg c4] at H
  have c4b0 : decide (300 < (a0_1.size : Int)) = false := decide_eq_false c4
  have c4b1 : decide (300 < a0_1.size) = false := decide_eq_false (by omega)
  clear c4
  (first | rw [c4b0] | (simp only [i64_w, i32_w]; rw [c4b0]) | skip)
  by_cases c6 : (a0_3.size : Int) > 500
  ·rw [if_pos c6] at H
   have c6b0 : decide (500 < (a0_3.size : Int)) = true := decide_eq_true c6
   have c6b1 : decide (500 < a0_3.size) = true := decide_eq_true (by omega)
   clear c6
   have H' := Aside0.mk H
   clear H
   obtain ⟨hcz7_0, hcz7_1, hcz7_2, hcz7_3, hcz7_4⟩ := c5_ BK109.out
   obtain ⟨hfz7_0, hfz7_1, hfz7_2, hfz7_3, hfz7_4⟩ := f5_ BK109.out
   go_wp2
   go_meet
   case rel => exact ⟨_, (true), vq_, H', ⟨by first | omega | exact Nat.le_refl _⟩, ⟨mb_ BK109.out⟩, ⟨bs_ GE109.out⟩⟩
  rw [if_neg c6] at H
  have c6b0 : decide (500 < (a0_3.size : Int)) = false := decide_eq_false c6
  have c6b1 : decide (500 < a0_3.size) = false := decide_eq_false (by omega)
  clear c6
  by_cases c8 : (a0_4.size : Int) > 3000
  ·rw [if_pos c8] at H
   have c8b0 : decide (3000 < (a0_4.size : Int)) = true := decide_eq_true c8
   have c8b1 : decide (3000 < a0_4.size) = true := decide_eq_true (by omega)
   clear c8
   by_cases c9 : (a0_4.size : Int) ≤ 65535
   ·rw [if_pos c9] at H
    have c9b0 : decide ((a0_4.size : Int) ≤ 65535) = true := decide_eq_true c9
    have c9b1 : decide (a0_4.size ≤ 65535) = true := decide_eq_true (by omega)
    clear c9
    have H' := Aside0.mk H
    clear H
    obtain ⟨hcz10_0, hcz10_1, hcz10_2, hcz10_3, hcz10_4⟩ := c5_ BK109.out
    obtain ⟨hfz10_0, hfz10_1, hfz10_2, hfz10_3, hfz10_4⟩ := f5_ BK109.out
    go_wp2
    go_meet
    case rel => exact ⟨_, (true), vq_, H', ⟨by first | omega | exact Nat.le_refl _⟩, ⟨mb_ BK109.out⟩, ⟨bs_ GE109.out⟩⟩
   rw [if_neg c9] at H
   have c9b0 : decide ((a0_4.size : Int) ≤ 65535) = false := decide_eq_false c9
   have c9b1 : decide (a0_4.size ≤ 65535) = false := decide_eq_false (by omega)
   clear c9
   have H' := Aside0.mk H
   clear H
   obtain ⟨hcz11_0, hcz11_1, hcz11_2, hcz11_3, hcz11_4⟩ := c5_ BK109.out
   obtain ⟨hfz11_0, hfz11_1, hfz11_2, hfz11_3, hfz11_4⟩ := f5_ BK109.out
   go_wp2
   go_meet
   case rel => exact ⟨_, (decide ((l0_2.length : Int) > 20)), vq_, H', ⟨by first | omega | exact Nat.le_refl _⟩, ⟨mb_ BK109.out⟩, ⟨bs_ GE109.out⟩⟩
  rw [if_neg c8] at H
  have c8b0 : decide (3000 < (a0_4.size : Int)) = false := decide_eq_false c8
  have c8b1 : decide (3000 < a0_4.size) = false := decide_eq_false (by omega)
  clear c8
  have H' := Aside0.mk H
  clear H
  obtain ⟨hcz12_0, hcz12_1, hcz12_2, hcz12_3, hcz12_4⟩ := c5_ BK109.out
  obtain ⟨hfz12_0, hfz12_1, hfz12_2, hfz12_3, hfz12_4⟩ := f5_ BK109.out
  go_wp2
  go_meet
  case rel => exact ⟨_, (decide ((l0_2.length : Int) > 20)), vq_, H', ⟨by first | omega | exact Nat.le_refl _⟩, ⟨mb_ BK109.out⟩, ⟨bs_ GE109.out⟩⟩
 case rest =>
  clear HC2
  obtain ⟨kq, x31_1, rfl, HA, HJ1, BK109, HB⟩ := hcut
  cases kq with
  | zero => exact absurd HA.out (by simp [Ji.j0])
  | succ kj1 =>
   have H := HA.out
   clear HA
   simp only [Ji.j0] at H
   by_cases c13 : x31_1 = true
   ·subst c13
    have H1 : (some true) = some r := by rw [if_pos rfl] at H; exact H
    clear H
    have H := H1
    clear H1
    obtain rfl := Option.some.inj H
    go_wp2
    go_ret
    exact ⟨er_, bs_ GE109.out⟩
   replace c13 := Bool.eq_false_iff.mpr c13
   subst c13
   have H1 : (Ji.l0 kj1 0 a0_0 a0_1 l0_2 a0_3 a0_4) = some r := by rw [if_neg (show ¬ (false = true) by decide)] at H; exact H
   clear H
   have H := H1
   clear H1
   have H' := Aside0.mk H
   clear H
   go_wp2
   go_loopg [3] kj1 (fun kq v3 w' => ∃ (x3_2 : Int), v3 = .int .i64 x3_2 ∧ Aside0 (Ji.l0 kq x3_2 a0_0 a0_1 l0_2 a0_3 a0_4 = some r) ∧ Aside0 (kq ≤ kj1) ∧ Aside0 (w'.heap[gb109]? = some (.cells #[.int .i64 a0_0, .string a0_1, (.slice A0_2 l0_2.length c0_2), .string a0_3, .string a0_4] 24 (0, 0))) ∧ Aside0 (Below w.heap.size w w'))
   case atStart => exact ⟨(0), vq_, H', ⟨Nat.le_refl _⟩, ⟨mb_ BK109.out⟩, ⟨bs_ GE109.out⟩⟩
   case round =>
    clear H'
    obtain ⟨x3_2, rfl, HA, HK2, BK109, HB⟩ := hrel
    cases gk with
    | zero => exact absurd HA.out (by simp [Ji.l0])
    | succ k2 =>
     have H := HA.out
     clear HA
     simp only [Ji.l0] at H
     by_cases c14 : x3_2 < (l0_2.length : Int)
     ·rw [if_pos c14] at H
      have c14b0 : decide (x3_2 < (l0_2.length : Int)) = true := decide_eq_true c14
      clear c14
      revert H; refine nd_ fun c15 c15b0 H => ?_
      clear c15
      by_cases c16 : ((rdOf ByteArray.empty l0_2 x3_2).size : Int) > 300
      ·rw [if_pos c16] at H
       have c16b0 : decide (300 < ((rdOf ByteArray.empty l0_2 x3_2).size : Int)) = true := decide_eq_true c16
       have c16b1 : decide (300 < (rdOf ByteArray.empty l0_2 x3_2).size) = true := decide_eq_true (by omega)
       clear c16
       obtain rfl := Option.some.inj H
       obtain ⟨hcz17_0, hcz17_1, hcz17_2, hcz17_3, hcz17_4⟩ := c5_ BK109.out
       obtain ⟨hfz17_0, hfz17_1, hfz17_2, hfz17_3, hfz17_4⟩ := f5_ BK109.out
       have p110 : 0 ≤ (x3_2 : Int) := ae_
       have q110 : x3_2 < (l0_2.length : Int) := ae_
       obtain ⟨ad110, e110, hx110_0⟩ := Kd.at_string HR0_2.out x3_2 p110 q110
       cases e110
       replace hx110_0 := (HB.out.cell (World.block_lt_of_cell? w _ hx110_0)).trans hx110_0
       replace p110 := eq_true p110
       replace q110 := eq_true q110
       go_wp2
       go_ret
       exact ⟨er_, bs_ GE109.out⟩
      rw [if_neg c16] at H
      have c16b0 : decide (300 < ((rdOf ByteArray.empty l0_2 x3_2).size : Int)) = false := decide_eq_false c16
      have c16b1 : decide (300 < (rdOf ByteArray.empty l0_2 x3_2).size) = false := decide_eq_false (by omega)
      clear c16
      have H' := Aside0.mk H
      clear H
      obtain ⟨hcz18_0, hcz18_1, hcz18_2, hcz18_3, hcz18_4⟩ := c5_ BK109.out
      obtain ⟨hfz18_0, hfz18_1, hfz18_2, hfz18_3, hfz18_4⟩ := f5_ BK109.out
      have p110 : 0 ≤ (x3_2 : Int) := ae_
      have q110 : x3_2 < (l0_2.length : Int) := ae_
      obtain ⟨ad110, e110, hx110_0⟩ := Kd.at_string HR0_2.out x3_2 p110 q110
      cases e110
      replace hx110_0 := (HB.out.cell (World.block_lt_of_cell? w _ hx110_0)).trans hx110_0
      replace p110 := eq_true p110
      replace q110 := eq_true q110
      go_wp2
      go_roundg k2
      case measure => have := HJ1.out; have := HK2.out; omega
      case rel => exact ⟨(wrap64 (x3_2 + 1)), vq_, H', ⟨by have := HJ1.out; have := HK2.out; omega⟩, ⟨mb_ BK109.out⟩, ⟨bs_ GE109.out⟩⟩
     rw [if_neg c14] at H
     have c14b0 : decide (x3_2 < (l0_2.length : Int)) = false := decide_eq_false c14
     clear c14
     obtain rfl := Option.some.inj H
     obtain ⟨hcz19_0, hcz19_1, hcz19_2, hcz19_3, hcz19_4⟩ := c5_ BK109.out
     obtain ⟨hfz19_0, hfz19_1, hfz19_2, hfz19_3, hfz19_4⟩ := f5_ BK109.out
     go_wp2
     go_ret
     exact ⟨er_, bs_ GE109.out⟩

/-! ### J1 = event_hash: function 55 -/
def J1.f (a0 : ByteArray) : Option (Bool) := some ((a0.size : Int) == 32)
set_option maxHeartbeats 64000000 in
set_option maxRecDepth 100000 in
theorem J1.calls (a0 : ByteArray) (r : Bool) (w : World) (h : J1.f a0 = some r) :
 Calls Tryz.prog 55 #[.string a0] w fun e w' => e = .returned (.bool r) ∧ Drawn0 w w' := by
 have H : (some ((a0.size : Int) == 32)) = some r := h
 clear h
 obtain rfl := Option.some.inj H
 go_enter Tryz.func55, Tryz.ntmps55
 go_wp2
 go_ret
 exact ⟨by first | rfl | (simp; done) | (simp [*]; done) | exact congrArg Value.bool (nonempty_l _) | (refine congrArg (Value.int _) ?_; first | omega | (unfold wrap64; omega)), by repeat (first | exact Drawn0.refl _ | apply Drawn0.step)⟩

/-! ### Jp = event_Right: function 27 -/
mutual
def Jp.l0 : Nat → List ByteArray → Int → Int → Int → ByteArray → List ByteArray → ByteArray → ByteArray → Option (Bool)
 | 0, _, _, _, _, _, _, _, _ => none
 | k + 1, x6, x7, x8, x112000, x112001, x112002, x112003, x112004 => if x8 < x7 then (if 0 ≤ x8 then (if x8 < (x6.length : Int) then ((J1.f (rdOf ByteArray.empty x6 x8)).bind fun t113 => (if t113 = true then (if x8 > 0 then (if 0 ≤ (wrap64 (x8 - 1)) then (if (wrap64 (x8 - 1)) < (x112002.length : Int) then (if ((Op.bytesLess ((rdOf ByteArray.empty x112002 (wrap64 (x8 - 1))).toList) ((rdOf ByteArray.empty x6 x8).toList)) = true) then (Jp.l0 k x6 x7 (wrap64 (x8 + 1)) x112000 x112001 x112002 x112003 x112004) else (some false)) else (none)) else (none)) else (Jp.l0 k x6 x7 (wrap64 (x8 + 1)) x112000 x112001 x112002 x112003 x112004)) else (some false))) else (none)) else (none)) else (if x112000 = 1 then (if (x112002.length : Int) > 0 then (some false) else ((J1.f x112001).bind fun t115 => (if t115 = true then (if (x112002.length : Int) ≤ 8 then (if (x112003.size : Int) ≤ 200 then (some (decide ((x112004.size : Int) ≤ 65535))) else (some false)) else (some false)) else (some false)))) else (if x112000 = 4 then (Jp.j1 k x112000 (x112000 == 4) x112000 x112001 x112002 x112003 x112004) else (Jp.j1 k x112000 (x112000 == 5) x112000 x112001 x112002 x112003 x112004)))
def Jp.j1 : Nat → Int → Bool → Int → ByteArray → List ByteArray → ByteArray → ByteArray → Option (Bool)
 | 0, _, _, _, _, _, _, _ => none
 | k + 1, x32, x35, x112000, x112001, x112002, x112003, x112004 => if x35 = true then ((J1.f x112003).bind fun t117 => (if t117 = true then (if (x112002.length : Int) = 0 then (some false) else ((J1.f x112001).bind fun t118 => (if t118 = true then (if (x112002.length : Int) ≤ 8 then (if (x112003.size : Int) ≤ 200 then (some (decide ((x112004.size : Int) ≤ 65535))) else (some false)) else (some false)) else (some false)))) else (some false))) else (if x32 = 2 then (Jp.j2 k (x32 == 2) x112000 x112001 x112002 x112003 x112004) else (Jp.j2 k (x32 == 3) x112000 x112001 x112002 x112003 x112004))
def Jp.j2 : Nat → Bool → Int → ByteArray → List ByteArray → ByteArray → ByteArray → Option (Bool)
 | 0, _, _, _, _, _, _ => none
 | k + 1, x38, x112000, x112001, x112002, x112003, x112004 => if x38 = true then (if (x112002.length : Int) = 0 then (some false) else ((J1.f x112001).bind fun t116 => (if t116 = true then (if (x112002.length : Int) ≤ 8 then (if (x112003.size : Int) ≤ 200 then (some (decide ((x112004.size : Int) ≤ 65535))) else (some false)) else (some false)) else (some false)))) else (some false)
end
def Jp.f (k : Nat) (a0_0 : Int) (a0_1 : ByteArray) (l0_2 : List ByteArray) (a0_3 : ByteArray) (a0_4 : ByteArray) : Option (Bool) := Jp.l0 k l0_2 (l0_2.length : Int) 0 a0_0 a0_1 l0_2 a0_3 a0_4
set_option maxHeartbeats 64000000 in
set_option maxRecDepth 100000 in
theorem Jp.calls (k : Nat) (a0_0 : Int) (a0_1 : ByteArray) (A0_2 : Option Addr) (c0_2 : Nat) (l0_2 : List ByteArray) (a0_3 : ByteArray) (a0_4 : ByteArray) (r : Bool) (w : World) (hr0_2 : Kd.C Kd.string w A0_2 l0_2.length l0_2) (hc0_2 : l0_2.length ≤ c0_2) (h : Jp.f k a0_0 a0_1 l0_2 a0_3 a0_4 = some r) :
 Calls Tryz.prog 27 #[.agg #[.int .i64 a0_0, .string a0_1, .slice A0_2 l0_2.length c0_2, .string a0_3, .string a0_4]] w fun e w' => e = .returned (.bool r) ∧ Below w.heap.size w w' := by
 have hu24 := Tryz.underlying24
 have HR0_2 := Aside0.mk hr0_2
 have HC0_2 := Aside0.mk hc0_2
 clear hr0_2 hc0_2
 have HB := Aside0.mk (Below.refl w.heap.size w)
 have H : (Jp.l0 k l0_2 (l0_2.length : Int) 0 a0_0 a0_1 l0_2 a0_3 a0_4) = some r := h
 clear h
 have H' := Aside0.mk H
 clear H
 go_enter Tryz.func27, Tryz.ntmps27
 go_wp2_with (first | ((with_reducible refine gate_dst (N := 1) rfl ?_); ((refine gate_guard (by rfl) ?_; dsimp only)); refine box_event ?hg (N := 1) ?hd (cs := #[.int .i64 a0_0, .string a0_1, .slice A0_2 l0_2.length c0_2, .string a0_3, .string a0_4]) (t := 24) ?hr ?_; (case hd => rfl); (case hg => rfl); (case hr => exact gr_); intro gb111 hg w2 hbox hb; have GE111 := Aside0.mk ((by rw [hg]; exact (below_size bl_) : w.heap.size ≤ gb111)); have GW111 := Aside0.mk ((by rw [hg]; exact (below_size bl_) : w.heap.size ≤ gb111)); have BK111 := Aside0.mk (hbox); replace HB := Aside0.mk (below_step bl_ hb); clear hb hbox hg; obtain ⟨hcz3_0, hcz3_1, hcz3_2, hcz3_3, hcz3_4⟩ := c5_ BK111.out; obtain ⟨hfz3_0, hfz3_1, hfz3_2, hfz3_3, hfz3_4⟩ := f5_ BK111.out))
 go_loopg [8] k (fun kq v8 w' => ∃ (x8_1 : Int), v8 = .int .i64 x8_1 ∧ Aside0 (Jp.l0 kq l0_2 (l0_2.length : Int) x8_1 a0_0 a0_1 l0_2 a0_3 a0_4 = some r) ∧ Aside0 (kq ≤ k) ∧ Aside0 (w'.heap[gb111]? = some (.cells #[.int .i64 a0_0, .string a0_1, (.slice A0_2 l0_2.length c0_2), .string a0_3, .string a0_4] 24 (0, 0))) ∧ Aside0 (Below w.heap.size w w'))
 case atStart => exact ⟨(0), vq_, H', ⟨Nat.le_refl _⟩, ⟨mb_ BK111.out⟩, ⟨bs_ GE111.out⟩⟩
 case round =>
  clear H'
  clear hcz3_0 hcz3_1 hcz3_2 hcz3_3 hcz3_4 hfz3_0 hfz3_1 hfz3_2 hfz3_3 hfz3_4
  obtain ⟨x8_1, rfl, HA, HK1, BK111, HB⟩ := hrel
  cases gk with
  | zero => exact absurd HA.out (by simp [Jp.l0])
  | succ k1 =>
   have H := HA.out
   clear HA
   simp only [Jp.l0] at H
   by_cases c4 : x8_1 < (l0_2.length : Int)
   ·rw [if_pos c4] at H
    have c4b0 : decide (x8_1 < (l0_2.length : Int)) = true := decide_eq_true c4
    clear c4
    revert H; refine nd_ fun c5 c5b0 => nd_ fun c6 c6b0 => oa_ fun t113 A7 H => ?_
    clear c5 c6
    by_cases c8 : t113 = true
    ·subst c8
     have H1 : (if x8_1 > 0 then (if 0 ≤ (wrap64 (x8_1 - 1)) then (if (wrap64 (x8_1 - 1)) < (l0_2.length : Int) then (if ((Op.bytesLess ((rdOf ByteArray.empty l0_2 (wrap64 (x8_1 - 1))).toList) ((rdOf ByteArray.empty l0_2 x8_1).toList)) = true) then (Jp.l0 k1 l0_2 (l0_2.length : Int) (wrap64 (x8_1 + 1)) a0_0 a0_1 l0_2 a0_3 a0_4) else (some false)) else (none)) else (none)) else (Jp.l0 k1 l0_2 (l0_2.length : Int) (wrap64 (x8_1 + 1)) a0_0 a0_1 l0_2 a0_3 a0_4)) = some r := by rw [if_pos rfl] at H; exact H
     clear H
     have H := H1
     clear H1
     by_cases c9 : x8_1 > 0
     ·rw [if_pos c9] at H
      have c9b0 : decide (0 < x8_1) = true := decide_eq_true c9
      clear c9
      generalize hji10 : (wrap64 (x8_1 - 1)) = ji10 at H
      have hji10w := (i64_w _).trans hji10
      revert H; refine nd_ fun c11 c11b0 => nd_ fun c12 c12b0 H => ?_
      clear c11 c12
      by_cases c13 : ((Op.bytesLess ((rdOf ByteArray.empty l0_2 (ji10)).toList) ((rdOf ByteArray.empty l0_2 x8_1).toList)) = true)
      ·rw [if_pos c13] at H
       have c13b0 : (Op.bytesLess ((rdOf ByteArray.empty l0_2 (ji10)).toList) ((rdOf ByteArray.empty l0_2 x8_1).toList)) = true := c13
       clear c13
       have H' := Aside0.mk H
       clear H
       have p112 : 0 ≤ (x8_1 : Int) := ae_
       have q112 : x8_1 < (l0_2.length : Int) := ae_
       obtain ⟨ad112, e112, hx112_0⟩ := Kd.at_string HR0_2.out x8_1 p112 q112
       cases e112
       replace hx112_0 := (HB.out.cell (World.block_lt_of_cell? w _ hx112_0)).trans hx112_0
       replace p112 := eq_true p112
       replace q112 := eq_true q112
       go_wp2_with (first | ((with_reducible refine gate_callee (f := 55) rfl ?_); refine gL_ 14 Tryz.func55 #[.string (rdOf ByteArray.empty l0_2 x8_1)] ?_; (with_reducible refine (J1.calls (rdOf ByteArray.empty l0_2 x8_1) true _ A7.out).mono ?_); rintro e w' ⟨rfl, ⟨nd, rfl⟩⟩; refine ⟨_, rfl, ?_⟩; obtain ⟨hcz14_0, hcz14_1, hcz14_2, hcz14_3, hcz14_4⟩ := c5_ BK111.out; obtain ⟨hfz14_0, hfz14_1, hfz14_2, hfz14_3, hfz14_4⟩ := f5_ BK111.out; have p114 : 0 ≤ ((ji10) : Int) := ae_; have q114 : (ji10) < (l0_2.length : Int) := ae_; obtain ⟨ad114, e114, hx114_0⟩ := Kd.at_string HR0_2.out (ji10) p114 q114; obtain rfl : ad112 = ad114 := (by injection e114); replace hx114_0 := (HB.out.cell (World.block_lt_of_cell? w _ hx114_0)).trans hx114_0; replace p114 := eq_true p114; replace q114 := eq_true q114))
       go_roundg k1
       case measure => have := HK1.out; omega
       case rel => exact ⟨(wrap64 (x8_1 + 1)), vq_, H', ⟨by have := HK1.out; omega⟩, ⟨mb_ BK111.out⟩, ⟨bs_ GE111.out⟩⟩
      rw [if_neg c13] at H
      have c13b0 : (Op.bytesLess ((rdOf ByteArray.empty l0_2 (ji10)).toList) ((rdOf ByteArray.empty l0_2 x8_1).toList)) = false := by simpa using c13
      clear c13
      obtain rfl := Option.some.inj H
      have p112 : 0 ≤ (x8_1 : Int) := ae_
      have q112 : x8_1 < (l0_2.length : Int) := ae_
      obtain ⟨ad112, e112, hx112_0⟩ := Kd.at_string HR0_2.out x8_1 p112 q112
      cases e112
      replace hx112_0 := (HB.out.cell (World.block_lt_of_cell? w _ hx112_0)).trans hx112_0
      replace p112 := eq_true p112
      replace q112 := eq_true q112
      go_wp2_with (first | ((with_reducible refine gate_callee (f := 55) rfl ?_); refine gL_ 14 Tryz.func55 #[.string (rdOf ByteArray.empty l0_2 x8_1)] ?_; (with_reducible refine (J1.calls (rdOf ByteArray.empty l0_2 x8_1) true _ A7.out).mono ?_); rintro e w' ⟨rfl, ⟨nd, rfl⟩⟩; refine ⟨_, rfl, ?_⟩; obtain ⟨hcz15_0, hcz15_1, hcz15_2, hcz15_3, hcz15_4⟩ := c5_ BK111.out; obtain ⟨hfz15_0, hfz15_1, hfz15_2, hfz15_3, hfz15_4⟩ := f5_ BK111.out; have p114 : 0 ≤ ((ji10) : Int) := ae_; have q114 : (ji10) < (l0_2.length : Int) := ae_; obtain ⟨ad114, e114, hx114_0⟩ := Kd.at_string HR0_2.out (ji10) p114 q114; obtain rfl : ad112 = ad114 := (by injection e114); replace hx114_0 := (HB.out.cell (World.block_lt_of_cell? w _ hx114_0)).trans hx114_0; replace p114 := eq_true p114; replace q114 := eq_true q114))
      go_ret
      exact ⟨by first | rfl | (simp [errW_none, errW_some] <;> rfl) | (simp only [← hji10]; first | rfl | (simp [errW_none, errW_some] <;> rfl)) | (simp [*, errW_none, errW_some] <;> rfl), bs_ GE111.out⟩
     rw [if_neg c9] at H
     have c9b0 : decide (0 < x8_1) = false := decide_eq_false c9
     clear c9
     have H' := Aside0.mk H
     clear H
     have p112 : 0 ≤ (x8_1 : Int) := ae_
     have q112 : x8_1 < (l0_2.length : Int) := ae_
     obtain ⟨ad112, e112, hx112_0⟩ := Kd.at_string HR0_2.out x8_1 p112 q112
     cases e112
     replace hx112_0 := (HB.out.cell (World.block_lt_of_cell? w _ hx112_0)).trans hx112_0
     replace p112 := eq_true p112
     replace q112 := eq_true q112
     go_wp2_with (first | ((with_reducible refine gate_callee (f := 55) rfl ?_); refine gL_ 14 Tryz.func55 #[.string (rdOf ByteArray.empty l0_2 x8_1)] ?_; (with_reducible refine (J1.calls (rdOf ByteArray.empty l0_2 x8_1) true _ A7.out).mono ?_); rintro e w' ⟨rfl, ⟨nd, rfl⟩⟩; refine ⟨_, rfl, ?_⟩))
     go_roundg k1
     case measure => have := HK1.out; omega
     case rel => exact ⟨(wrap64 (x8_1 + 1)), vq_, H', ⟨by have := HK1.out; omega⟩, ⟨mb_ BK111.out⟩, ⟨bs_ GE111.out⟩⟩
    replace c8 := Bool.eq_false_iff.mpr c8
    subst c8
    have H1 : (some false) = some r := by rw [if_neg (show ¬ (false = true) by decide)] at H; exact H
    clear H
    have H := H1
    clear H1
    obtain rfl := Option.some.inj H
    have p112 : 0 ≤ (x8_1 : Int) := ae_
    have q112 : x8_1 < (l0_2.length : Int) := ae_
    obtain ⟨ad112, e112, hx112_0⟩ := Kd.at_string HR0_2.out x8_1 p112 q112
    cases e112
    replace hx112_0 := (HB.out.cell (World.block_lt_of_cell? w _ hx112_0)).trans hx112_0
    replace p112 := eq_true p112
    replace q112 := eq_true q112
    go_wp2_with (first | ((with_reducible refine gate_callee (f := 55) rfl ?_); refine gL_ 14 Tryz.func55 #[.string (rdOf ByteArray.empty l0_2 x8_1)] ?_; (with_reducible refine (J1.calls (rdOf ByteArray.empty l0_2 x8_1) false _ A7.out).mono ?_); rintro e w' ⟨rfl, ⟨nd, rfl⟩⟩; refine ⟨_, rfl, ?_⟩))
    go_ret
    exact ⟨er_, bs_ GE111.out⟩
   rw [if_neg c4] at H
   have c4b0 : decide (x8_1 < (l0_2.length : Int)) = false := decide_eq_false c4
   clear c4
   by_cases c16 : a0_0 = 1
   ·rw [if_pos c16] at H
    have c16b0 : (a0_0 == 1) = true := beq_iff_eq.mpr c16
    have c16b1 : (a0_0 != 1) = false := bne_eq_false_iff_eq.mpr c16
    clear c16
    by_cases c17 : (l0_2.length : Int) > 0
    ·rw [if_pos c17] at H
     have c17b0 : decide (0 < (l0_2.length : Int)) = true := decide_eq_true c17
     have c17b1 : decide (0 < l0_2.length) = true := decide_eq_true (by omega)
     clear c17
     obtain rfl := Option.some.inj H
     obtain ⟨hcz18_0, hcz18_1, hcz18_2, hcz18_3, hcz18_4⟩ := c5_ BK111.out
     obtain ⟨hfz18_0, hfz18_1, hfz18_2, hfz18_3, hfz18_4⟩ := f5_ BK111.out
     go_wp2
     go_ret
     exact ⟨er_, bs_ GE111.out⟩
    rw [if_neg c17] at H
    have c17b0 : decide (0 < (l0_2.length : Int)) = false := decide_eq_false c17
    have c17b1 : decide (0 < l0_2.length) = false := decide_eq_false (by omega)
    clear c17
    revert H; refine oa_ fun t115 A19 H => ?_
    by_cases c20 : t115 = true
    ·subst c20
     have H1 : (if (l0_2.length : Int) ≤ 8 then (if (a0_3.size : Int) ≤ 200 then (some (decide ((a0_4.size : Int) ≤ 65535))) else (some false)) else (some false)) = some r := by rw [if_pos rfl] at H; exact H
     clear H
     have H := H1
     clear H1
     by_cases c21 : (l0_2.length : Int) ≤ 8
     ·rw [if_pos c21] at H
      have c21b0 : decide ((l0_2.length : Int) ≤ 8) = true := decide_eq_true c21
      have c21b1 : decide (l0_2.length ≤ 8) = true := decide_eq_true (by omega)
      clear c21
      by_cases c22 : (a0_3.size : Int) ≤ 200
      ·rw [if_pos c22] at H
       have c22b0 : decide ((a0_3.size : Int) ≤ 200) = true := decide_eq_true c22
       have c22b1 : decide (a0_3.size ≤ 200) = true := decide_eq_true (by omega)
       clear c22
       obtain rfl := Option.some.inj H
       obtain ⟨hcz23_0, hcz23_1, hcz23_2, hcz23_3, hcz23_4⟩ := c5_ BK111.out
       obtain ⟨hfz23_0, hfz23_1, hfz23_2, hfz23_3, hfz23_4⟩ := f5_ BK111.out
       go_wp2_with (first | ((with_reducible refine gate_callee (f := 55) rfl ?_); refine gL_ 55 Tryz.func55 #[.string a0_1] ?_; (with_reducible refine (J1.calls a0_1 true _ A19.out).mono ?_); rintro e w' ⟨rfl, ⟨nd, rfl⟩⟩; refine ⟨_, rfl, ?_⟩))
       go_ret
       exact ⟨er_, bs_ GE111.out⟩
      rw [if_neg c22] at H
      have c22b0 : decide ((a0_3.size : Int) ≤ 200) = false := decide_eq_false c22
      have c22b1 : decide (a0_3.size ≤ 200) = false := decide_eq_false (by omega)
      clear c22
      obtain rfl := Option.some.inj H
      obtain ⟨hcz24_0, hcz24_1, hcz24_2, hcz24_3, hcz24_4⟩ := c5_ BK111.out
      obtain ⟨hfz24_0, hfz24_1, hfz24_2, hfz24_3, hfz24_4⟩ := f5_ BK111.out
      go_wp2_with (first | ((with_reducible refine gate_callee (f := 55) rfl ?_); refine gL_ 55 Tryz.func55 #[.string a0_1] ?_; (with_reducible refine (J1.calls a0_1 true _ A19.out).mono ?_); rintro e w' ⟨rfl, ⟨nd, rfl⟩⟩; refine ⟨_, rfl, ?_⟩))
      go_ret
      exact ⟨er_, bs_ GE111.out⟩
     rw [if_neg c21] at H
     have c21b0 : decide ((l0_2.length : Int) ≤ 8) = false := decide_eq_false c21
     have c21b1 : decide (l0_2.length ≤ 8) = false := decide_eq_false (by omega)
     clear c21
     obtain rfl := Option.some.inj H
     obtain ⟨hcz25_0, hcz25_1, hcz25_2, hcz25_3, hcz25_4⟩ := c5_ BK111.out
     obtain ⟨hfz25_0, hfz25_1, hfz25_2, hfz25_3, hfz25_4⟩ := f5_ BK111.out
     go_wp2_with (first | ((with_reducible refine gate_callee (f := 55) rfl ?_); refine gL_ 55 Tryz.func55 #[.string a0_1] ?_; (with_reducible refine (J1.calls a0_1 true _ A19.out).mono ?_); rintro e w' ⟨rfl, ⟨nd, rfl⟩⟩; refine ⟨_, rfl, ?_⟩))
     go_ret
     exact ⟨er_, bs_ GE111.out⟩
    replace c20 := Bool.eq_false_iff.mpr c20
    subst c20
    have H1 : (some false) = some r := by rw [if_neg (show ¬ (false = true) by decide)] at H; exact H
    clear H
    have H := H1
    clear H1
    obtain rfl := Option.some.inj H
    obtain ⟨hcz26_0, hcz26_1, hcz26_2, hcz26_3, hcz26_4⟩ := c5_ BK111.out
    obtain ⟨hfz26_0, hfz26_1, hfz26_2, hfz26_3, hfz26_4⟩ := f5_ BK111.out
    go_wp2_with (first | ((with_reducible refine gate_callee (f := 55) rfl ?_); refine gL_ 55 Tryz.func55 #[.string a0_1] ?_; (with_reducible refine (J1.calls a0_1 false _ A19.out).mono ?_); rintro e w' ⟨rfl, ⟨nd, rfl⟩⟩; refine ⟨_, rfl, ?_⟩))
    go_ret
    exact ⟨er_, bs_ GE111.out⟩
   rw [if_neg c16] at H
   have c16b0 : (a0_0 == 1) = false := beq_eq_false_iff_ne.mpr c16
   have c16b1 : (a0_0 != 1) = true := bne_iff_ne.mpr c16
   have HC27 := Aside0.mk H
   clear H
   obtain ⟨hcz28_0, hcz28_1, hcz28_2, hcz28_3, hcz28_4⟩ := c5_ BK111.out
   obtain ⟨hfz28_0, hfz28_1, hfz28_2, hfz28_3, hfz28_4⟩ := f5_ BK111.out
   go_upto_if 35 with (fail)
   go_cut [35] (fun v35 wc => ∃ (kq : Nat) (x35_26 : Bool), v35 = .bool x35_26 ∧ Aside0 (Jp.j1 kq a0_0 x35_26 a0_0 a0_1 l0_2 a0_3 a0_4 = some r) ∧ Aside0 (kq ≤ k1) ∧ Aside0 (wc.heap[gb111]? = some (.cells #[.int .i64 a0_0, .string a0_1, (.slice A0_2 l0_2.length c0_2), .string a0_3, .string a0_4] 24 (0, 0))) ∧ Aside0 (Below w.heap.size w wc))
   case first =>
    have H := HC27.out
    clear HC27
    by_cases c29 : a0_0 = 4
    ·rw [if_pos c29] at H
     have c29b0 : (a0_0 == 4) = true := beq_iff_eq.mpr c29
     have c29b1 : (a0_0 != 4) = false := bne_eq_false_iff_eq.mpr c29
     clear c29
     (first | rw [c29b0] | (simp only [i64_w, i32_w]; rw [c29b0]) | skip)
     have H' := Aside0.mk H
     clear H
     go_wp2
     go_meet
     case rel => exact ⟨_, ((a0_0 == 4)), vq_, H', ⟨by have := HK1.out; first | omega | exact Nat.le_refl _⟩, ⟨mb_ BK111.out⟩, ⟨bs_ GE111.out⟩⟩
    rw [if_neg c29] at H
    have c29b0 : (a0_0 == 4) = false := beq_eq_false_iff_ne.mpr c29
    have c29b1 : (a0_0 != 4) = true := bne_iff_ne.mpr c29
    (first | rw [c29b0] | (simp only [i64_w, i32_w]; rw [c29b0]) | skip)
    have H' := Aside0.mk H
    clear H
    go_wp2
    go_meet
    case rel => exact ⟨_, ((a0_0 == 5)), vq_, H', ⟨by have := HK1.out; first | omega | exact Nat.le_refl _⟩, ⟨mb_ BK111.out⟩, ⟨bs_ GE111.out⟩⟩
   case rest =>
    clear HC27
    clear c4b0 c16 c16b0 c16b1 hcz28_0 hcz28_1 hcz28_2 hcz28_3 hcz28_4 hfz28_0 hfz28_1 hfz28_2 hfz28_3 hfz28_4
    obtain ⟨kq, x35_26, rfl, HA, HJ26, BK111, HB⟩ := hcut
    cases kq with
    | zero => exact absurd HA.out (by simp [Jp.j1])
    | succ kj26 =>
     have H := HA.out
     clear HA
     simp only [Jp.j1] at H
     by_cases c30 : x35_26 = true
     ·subst c30
      have H1 : ((J1.f a0_3).bind fun t117 => (if t117 = true then (if (l0_2.length : Int) = 0 then (some false) else ((J1.f a0_1).bind fun t118 => (if t118 = true then (if (l0_2.length : Int) ≤ 8 then (if (a0_3.size : Int) ≤ 200 then (some (decide ((a0_4.size : Int) ≤ 65535))) else (some false)) else (some false)) else (some false)))) else (some false))) = some r := by rw [if_pos rfl] at H; exact H
      clear H
      have H := H1
      clear H1
      revert H; refine oa_ fun t117 A31 H => ?_
      by_cases c32 : t117 = true
      ·subst c32
       have H1 : (if (l0_2.length : Int) = 0 then (some false) else ((J1.f a0_1).bind fun t118 => (if t118 = true then (if (l0_2.length : Int) ≤ 8 then (if (a0_3.size : Int) ≤ 200 then (some (decide ((a0_4.size : Int) ≤ 65535))) else (some false)) else (some false)) else (some false)))) = some r := by rw [if_pos rfl] at H; exact H
       clear H
       have H := H1
       clear H1
       by_cases c33 : (l0_2.length : Int) = 0
       ·rw [if_pos c33] at H
        have c33b0 : ((l0_2.length : Int) == 0) = true := beq_iff_eq.mpr c33
        have c33b1 : ((l0_2.length : Int) != 0) = false := bne_eq_false_iff_eq.mpr c33
        clear c33
        obtain rfl := Option.some.inj H
        obtain ⟨hcz34_0, hcz34_1, hcz34_2, hcz34_3, hcz34_4⟩ := c5_ BK111.out
        obtain ⟨hfz34_0, hfz34_1, hfz34_2, hfz34_3, hfz34_4⟩ := f5_ BK111.out
        go_wp2_with (first | ((with_reducible refine gate_callee (f := 55) rfl ?_); refine gL_ 47 Tryz.func55 #[.string a0_3] ?_; (with_reducible refine (J1.calls a0_3 true _ A31.out).mono ?_); rintro e w' ⟨rfl, ⟨nd, rfl⟩⟩; refine ⟨_, rfl, ?_⟩))
        go_ret
        exact ⟨er_, bs_ GE111.out⟩
       rw [if_neg c33] at H
       have c33b0 : ((l0_2.length : Int) == 0) = false := beq_eq_false_iff_ne.mpr c33
       have c33b1 : ((l0_2.length : Int) != 0) = true := bne_iff_ne.mpr c33
       have c33b2 : ¬ (l0_2 = []) := fun h_ => c33 (by rw [h_]; rfl)
       revert H; refine oa_ fun t118 A35 H => ?_
       by_cases c36 : t118 = true
       ·subst c36
        have H1 : (if (l0_2.length : Int) ≤ 8 then (if (a0_3.size : Int) ≤ 200 then (some (decide ((a0_4.size : Int) ≤ 65535))) else (some false)) else (some false)) = some r := by rw [if_pos rfl] at H; exact H
        clear H
        have H := H1
        clear H1
        by_cases c37 : (l0_2.length : Int) ≤ 8
        ·rw [if_pos c37] at H
         have c37b0 : decide ((l0_2.length : Int) ≤ 8) = true := decide_eq_true c37
         have c37b1 : decide (l0_2.length ≤ 8) = true := decide_eq_true (by omega)
         clear c37
         by_cases c38 : (a0_3.size : Int) ≤ 200
         ·rw [if_pos c38] at H
          have c38b0 : decide ((a0_3.size : Int) ≤ 200) = true := decide_eq_true c38
          have c38b1 : decide (a0_3.size ≤ 200) = true := decide_eq_true (by omega)
          clear c38
          obtain rfl := Option.some.inj H
          obtain ⟨hcz39_0, hcz39_1, hcz39_2, hcz39_3, hcz39_4⟩ := c5_ BK111.out
          obtain ⟨hfz39_0, hfz39_1, hfz39_2, hfz39_3, hfz39_4⟩ := f5_ BK111.out
          go_wp2_with (first | ((with_reducible refine gate_callee (f := 55) rfl ?_); refine gL_ 47 Tryz.func55 #[.string a0_3] ?_; (with_reducible refine (J1.calls a0_3 true _ A31.out).mono ?_); rintro e w' ⟨rfl, ⟨nd, rfl⟩⟩; refine ⟨_, rfl, ?_⟩) | ((with_reducible refine gate_callee (f := 55) rfl ?_); refine gL_ 55 Tryz.func55 #[.string a0_1] ?_; (with_reducible refine (J1.calls a0_1 true _ A35.out).mono ?_); rintro e w' ⟨rfl, ⟨nd, rfl⟩⟩; refine ⟨_, rfl, ?_⟩))
          go_ret
          exact ⟨er_, bs_ GE111.out⟩
         rw [if_neg c38] at H
         have c38b0 : decide ((a0_3.size : Int) ≤ 200) = false := decide_eq_false c38
         have c38b1 : decide (a0_3.size ≤ 200) = false := decide_eq_false (by omega)
         clear c38
         obtain rfl := Option.some.inj H
         obtain ⟨hcz40_0, hcz40_1, hcz40_2, hcz40_3, hcz40_4⟩ := c5_ BK111.out
         obtain ⟨hfz40_0, hfz40_1, hfz40_2, hfz40_3, hfz40_4⟩ := f5_ BK111.out
         go_wp2_with (first | ((with_reducible refine gate_callee (f := 55) rfl ?_); refine gL_ 47 Tryz.func55 #[.string a0_3] ?_; (with_reducible refine (J1.calls a0_3 true _ A31.out).mono ?_); rintro e w' ⟨rfl, ⟨nd, rfl⟩⟩; refine ⟨_, rfl, ?_⟩) | ((with_reducible refine gate_callee (f := 55) rfl ?_); refine gL_ 55 Tryz.func55 #[.string a0_1] ?_; (with_reducible refine (J1.calls a0_1 true _ A35.out).mono ?_); rintro e w' ⟨rfl, ⟨nd, rfl⟩⟩; refine ⟨_, rfl, ?_⟩))
         go_ret
         exact ⟨er_, bs_ GE111.out⟩
        rw [if_neg c37] at H
        have c37b0 : decide ((l0_2.length : Int) ≤ 8) = false := decide_eq_false c37
        have c37b1 : decide (l0_2.length ≤ 8) = false := decide_eq_false (by omega)
        clear c37
        obtain rfl := Option.some.inj H
        obtain ⟨hcz41_0, hcz41_1, hcz41_2, hcz41_3, hcz41_4⟩ := c5_ BK111.out
        obtain ⟨hfz41_0, hfz41_1, hfz41_2, hfz41_3, hfz41_4⟩ := f5_ BK111.out
        go_wp2_with (first | ((with_reducible refine gate_callee (f := 55) rfl ?_); refine gL_ 47 Tryz.func55 #[.string a0_3] ?_; (with_reducible refine (J1.calls a0_3 true _ A31.out).mono ?_); rintro e w' ⟨rfl, ⟨nd, rfl⟩⟩; refine ⟨_, rfl, ?_⟩) | ((with_reducible refine gate_callee (f := 55) rfl ?_); refine gL_ 55 Tryz.func55 #[.string a0_1] ?_; (with_reducible refine (J1.calls a0_1 true _ A35.out).mono ?_); rintro e w' ⟨rfl, ⟨nd, rfl⟩⟩; refine ⟨_, rfl, ?_⟩))
        go_ret
        exact ⟨er_, bs_ GE111.out⟩
       replace c36 := Bool.eq_false_iff.mpr c36
       subst c36
       have H1 : (some false) = some r := by rw [if_neg (show ¬ (false = true) by decide)] at H; exact H
       clear H
       have H := H1
       clear H1
       obtain rfl := Option.some.inj H
       obtain ⟨hcz42_0, hcz42_1, hcz42_2, hcz42_3, hcz42_4⟩ := c5_ BK111.out
       obtain ⟨hfz42_0, hfz42_1, hfz42_2, hfz42_3, hfz42_4⟩ := f5_ BK111.out
       go_wp2_with (first | ((with_reducible refine gate_callee (f := 55) rfl ?_); refine gL_ 47 Tryz.func55 #[.string a0_3] ?_; (with_reducible refine (J1.calls a0_3 true _ A31.out).mono ?_); rintro e w' ⟨rfl, ⟨nd, rfl⟩⟩; refine ⟨_, rfl, ?_⟩) | ((with_reducible refine gate_callee (f := 55) rfl ?_); refine gL_ 55 Tryz.func55 #[.string a0_1] ?_; (with_reducible refine (J1.calls a0_1 false _ A35.out).mono ?_); rintro e w' ⟨rfl, ⟨nd, rfl⟩⟩; refine ⟨_, rfl, ?_⟩))
       go_ret
       exact ⟨er_, bs_ GE111.out⟩
      replace c32 := Bool.eq_false_iff.mpr c32
      subst c32
      have H1 : (some false) = some r := by rw [if_neg (show ¬ (false = true) by decide)] at H; exact H
      clear H
      have H := H1
      clear H1
      obtain rfl := Option.some.inj H
      obtain ⟨hcz43_0, hcz43_1, hcz43_2, hcz43_3, hcz43_4⟩ := c5_ BK111.out
      obtain ⟨hfz43_0, hfz43_1, hfz43_2, hfz43_3, hfz43_4⟩ := f5_ BK111.out
      go_wp2_with (first | ((with_reducible refine gate_callee (f := 55) rfl ?_); refine gL_ 47 Tryz.func55 #[.string a0_3] ?_; (with_reducible refine (J1.calls a0_3 false _ A31.out).mono ?_); rintro e w' ⟨rfl, ⟨nd, rfl⟩⟩; refine ⟨_, rfl, ?_⟩))
      go_ret
      exact ⟨er_, bs_ GE111.out⟩
     replace c30 := Bool.eq_false_iff.mpr c30
     subst c30
     have H1 : (if a0_0 = 2 then (Jp.j2 kj26 (a0_0 == 2) a0_0 a0_1 l0_2 a0_3 a0_4) else (Jp.j2 kj26 (a0_0 == 3) a0_0 a0_1 l0_2 a0_3 a0_4)) = some r := by rw [if_neg (show ¬ (false = true) by decide)] at H; exact H
     clear H
     have H := H1
     clear H1
     have HC44 := Aside0.mk H
     clear H
     go_upto_if 38 with (fail)
     go_cut [38] (fun v38 wc => ∃ (kq : Nat) (x38_43 : Bool), v38 = .bool x38_43 ∧ Aside0 (Jp.j2 kq x38_43 a0_0 a0_1 l0_2 a0_3 a0_4 = some r) ∧ Aside0 (kq ≤ kj26) ∧ Aside0 (wc.heap[gb111]? = some (.cells #[.int .i64 a0_0, .string a0_1, (.slice A0_2 l0_2.length c0_2), .string a0_3, .string a0_4] 24 (0, 0))) ∧ Aside0 (Below w.heap.size w wc))
     case first =>
      have H := HC44.out
      clear HC44
      by_cases c45 : a0_0 = 2
      ·rw [if_pos c45] at H
       have c45b0 : (a0_0 == 2) = true := beq_iff_eq.mpr c45
       have c45b1 : (a0_0 != 2) = false := bne_eq_false_iff_eq.mpr c45
       clear c45
       (first | rw [c45b0] | (simp only [i64_w, i32_w]; rw [c45b0]) | skip)
       have H' := Aside0.mk H
       clear H
       go_wp2
       go_meet
       case rel => exact ⟨_, ((a0_0 == 2)), vq_, H', ⟨by have := HK1.out; have := HJ26.out; first | omega | exact Nat.le_refl _⟩, ⟨mb_ BK111.out⟩, ⟨bs_ GE111.out⟩⟩
      rw [if_neg c45] at H
      have c45b0 : (a0_0 == 2) = false := beq_eq_false_iff_ne.mpr c45
      have c45b1 : (a0_0 != 2) = true := bne_iff_ne.mpr c45
      (first | rw [c45b0] | (simp only [i64_w, i32_w]; rw [c45b0]) | skip)
      have H' := Aside0.mk H
      clear H
      go_wp2
      go_meet
      case rel => exact ⟨_, ((a0_0 == 3)), vq_, H', ⟨by have := HK1.out; have := HJ26.out; first | omega | exact Nat.le_refl _⟩, ⟨mb_ BK111.out⟩, ⟨bs_ GE111.out⟩⟩
     case rest =>
      clear HC44
      obtain ⟨kq, x38_43, rfl, HA, HJ43, BK111, HB⟩ := hcut
      cases kq with
      | zero => exact absurd HA.out (by simp [Jp.j2])
      | succ kj43 =>
       have H := HA.out
       clear HA
       simp only [Jp.j2] at H
       by_cases c46 : x38_43 = true
       ·subst c46
        have H1 : (if (l0_2.length : Int) = 0 then (some false) else ((J1.f a0_1).bind fun t116 => (if t116 = true then (if (l0_2.length : Int) ≤ 8 then (if (a0_3.size : Int) ≤ 200 then (some (decide ((a0_4.size : Int) ≤ 65535))) else (some false)) else (some false)) else (some false)))) = some r := by rw [if_pos rfl] at H; exact H
        clear H
        have H := H1
        clear H1
        by_cases c47 : (l0_2.length : Int) = 0
        ·rw [if_pos c47] at H
         have c47b0 : ((l0_2.length : Int) == 0) = true := beq_iff_eq.mpr c47
         have c47b1 : ((l0_2.length : Int) != 0) = false := bne_eq_false_iff_eq.mpr c47
         clear c47
         obtain rfl := Option.some.inj H
         obtain ⟨hcz48_0, hcz48_1, hcz48_2, hcz48_3, hcz48_4⟩ := c5_ BK111.out
         obtain ⟨hfz48_0, hfz48_1, hfz48_2, hfz48_3, hfz48_4⟩ := f5_ BK111.out
         go_wp2
         go_ret
         exact ⟨er_, bs_ GE111.out⟩
        rw [if_neg c47] at H
        have c47b0 : ((l0_2.length : Int) == 0) = false := beq_eq_false_iff_ne.mpr c47
        have c47b1 : ((l0_2.length : Int) != 0) = true := bne_iff_ne.mpr c47
        have c47b2 : ¬ (l0_2 = []) := fun h_ => c47 (by rw [h_]; rfl)
        revert H; refine oa_ fun t116 A49 H => ?_
        by_cases c50 : t116 = true
        ·subst c50
         have H1 : (if (l0_2.length : Int) ≤ 8 then (if (a0_3.size : Int) ≤ 200 then (some (decide ((a0_4.size : Int) ≤ 65535))) else (some false)) else (some false)) = some r := by rw [if_pos rfl] at H; exact H
         clear H
         have H := H1
         clear H1
         by_cases c51 : (l0_2.length : Int) ≤ 8
         ·rw [if_pos c51] at H
          have c51b0 : decide ((l0_2.length : Int) ≤ 8) = true := decide_eq_true c51
          have c51b1 : decide (l0_2.length ≤ 8) = true := decide_eq_true (by omega)
          clear c51
          by_cases c52 : (a0_3.size : Int) ≤ 200
          ·rw [if_pos c52] at H
           have c52b0 : decide ((a0_3.size : Int) ≤ 200) = true := decide_eq_true c52
           have c52b1 : decide (a0_3.size ≤ 200) = true := decide_eq_true (by omega)
           clear c52
           obtain rfl := Option.some.inj H
           obtain ⟨hcz53_0, hcz53_1, hcz53_2, hcz53_3, hcz53_4⟩ := c5_ BK111.out
           obtain ⟨hfz53_0, hfz53_1, hfz53_2, hfz53_3, hfz53_4⟩ := f5_ BK111.out
           go_wp2_with (first | ((with_reducible refine gate_callee (f := 55) rfl ?_); refine gL_ 55 Tryz.func55 #[.string a0_1] ?_; (with_reducible refine (J1.calls a0_1 true _ A49.out).mono ?_); rintro e w' ⟨rfl, ⟨nd, rfl⟩⟩; refine ⟨_, rfl, ?_⟩))
           go_ret
           exact ⟨er_, bs_ GE111.out⟩
          rw [if_neg c52] at H
          have c52b0 : decide ((a0_3.size : Int) ≤ 200) = false := decide_eq_false c52
          have c52b1 : decide (a0_3.size ≤ 200) = false := decide_eq_false (by omega)
          clear c52
          obtain rfl := Option.some.inj H
          obtain ⟨hcz54_0, hcz54_1, hcz54_2, hcz54_3, hcz54_4⟩ := c5_ BK111.out
          obtain ⟨hfz54_0, hfz54_1, hfz54_2, hfz54_3, hfz54_4⟩ := f5_ BK111.out
          go_wp2_with (first | ((with_reducible refine gate_callee (f := 55) rfl ?_); refine gL_ 55 Tryz.func55 #[.string a0_1] ?_; (with_reducible refine (J1.calls a0_1 true _ A49.out).mono ?_); rintro e w' ⟨rfl, ⟨nd, rfl⟩⟩; refine ⟨_, rfl, ?_⟩))
          go_ret
          exact ⟨er_, bs_ GE111.out⟩
         rw [if_neg c51] at H
         have c51b0 : decide ((l0_2.length : Int) ≤ 8) = false := decide_eq_false c51
         have c51b1 : decide (l0_2.length ≤ 8) = false := decide_eq_false (by omega)
         clear c51
         obtain rfl := Option.some.inj H
         obtain ⟨hcz55_0, hcz55_1, hcz55_2, hcz55_3, hcz55_4⟩ := c5_ BK111.out
         obtain ⟨hfz55_0, hfz55_1, hfz55_2, hfz55_3, hfz55_4⟩ := f5_ BK111.out
         go_wp2_with (first | ((with_reducible refine gate_callee (f := 55) rfl ?_); refine gL_ 55 Tryz.func55 #[.string a0_1] ?_; (with_reducible refine (J1.calls a0_1 true _ A49.out).mono ?_); rintro e w' ⟨rfl, ⟨nd, rfl⟩⟩; refine ⟨_, rfl, ?_⟩))
         go_ret
         exact ⟨er_, bs_ GE111.out⟩
        replace c50 := Bool.eq_false_iff.mpr c50
        subst c50
        have H1 : (some false) = some r := by rw [if_neg (show ¬ (false = true) by decide)] at H; exact H
        clear H
        have H := H1
        clear H1
        obtain rfl := Option.some.inj H
        obtain ⟨hcz56_0, hcz56_1, hcz56_2, hcz56_3, hcz56_4⟩ := c5_ BK111.out
        obtain ⟨hfz56_0, hfz56_1, hfz56_2, hfz56_3, hfz56_4⟩ := f5_ BK111.out
        go_wp2_with (first | ((with_reducible refine gate_callee (f := 55) rfl ?_); refine gL_ 55 Tryz.func55 #[.string a0_1] ?_; (with_reducible refine (J1.calls a0_1 false _ A49.out).mono ?_); rintro e w' ⟨rfl, ⟨nd, rfl⟩⟩; refine ⟨_, rfl, ?_⟩))
        go_ret
        exact ⟨er_, bs_ GE111.out⟩
       replace c46 := Bool.eq_false_iff.mpr c46
       subst c46
       have H1 : (some false) = some r := by rw [if_neg (show ¬ (false = true) by decide)] at H; exact H
       clear H
       have H := H1
       clear H1
       obtain rfl := Option.some.inj H
       go_wp2
       go_ret
       exact ⟨er_, bs_ GE111.out⟩

-- NOT PRINTED: function 106 (abi_NoEscape)

-- NOT PRINTED: function 95 (strings_Builder_copyCheck)

-- NOT PRINTED: function 69 (strings_Builder_WriteString)

-- NOT PRINTED: function 70 (strings_Builder_WriteByte)

-- NOT PRINTED: function 71 (strings_Builder_String)

/-! ### Jo = event_content: function 44 (walked by hand) -/
/-- Texts, one behind the other. -/
def Jo.cat : List ByteArray → List UInt8
  | [] => []
  | s :: l => s.toList ++ Jo.cat l
def Jo.u8 (x : Int) : UInt8 := UInt8.ofNat (x % 256).toNat
def Jo.f (k : Nat) (a0_0 : Int) (a0_1 : ByteArray) (l0_2 : List ByteArray) (a0_3 : ByteArray) (_a0_4 : ByteArray) : Option ByteArray :=
  (Um.f k a0_1).bind fun t1 => (Um.f k a0_3).bind fun t3 =>
    if (((([Jo.u8 a0_0] ++ t1.1.toList) ++ [Jo.u8 l0_2.length]) ++ Jo.cat l0_2) ++ t3.1.toList).length ≤ 140737488355328 then
      some ⟨(((([Jo.u8 a0_0] ++ t1.1.toList) ++ [Jo.u8 l0_2.length]) ++ Jo.cat l0_2) ++ t3.1.toList).toArray⟩ else none
theorem Jo.text_calls (k : Nat) (s t : ByteArray) (ok : Bool) {w0 W : World} {b : Nat} {acc : List UInt8} (h : Bld.St w0 b acc W) (ht : Um.f k s = some (t, ok)) (hl : acc.length + t.size ≤ 140737488355328) :
    Calls Tryz.prog 68 #[.string s, .pointer (some ⟨b, 0, none⟩)] W fun e W' => e = .returned (.tuple #[]) ∧ Bld.St w0 b (acc ++ t.toList) W' := by
  have HS := Aside0.mk h
  clear h
  have HT := Aside0.mk ht
  clear ht
  go_enter Tryz.func68, Tryz.ntmps68
  go_wp2_with (first | (go_at_call 43; (with_reducible refine (Um.calls k s t ok _ HT.out).mono ?_); rintro e W1 ⟨rfl, hb⟩; have n0_ := Aside0.mk (HS.out.later hb); clear HS hb; have HS := n0_; clear n0_) | (go_at_call 69; (with_reducible refine (HS.out.str t hl).mono ?_); rintro e W2 ⟨rfl, hs⟩; have n0_ := Aside0.mk hs; clear HS hs; have HS := n0_; clear n0_))
  go_end0
  exact ⟨rfl, HS.out⟩
theorem Jo.size_toList (s : ByteArray) : s.toList.length = s.size := by rw [ByteArray.toList_eq, data_length]
theorem Jo.drop_rd (l : List ByteArray) (x : Int) (h0 : 0 ≤ x) (h1 : x < (l.length : Int)) : l.drop x.toNat = rdOf ByteArray.empty l x :: l.drop (x + 1).toNat := by
  have hl : x.toNat < l.length := by omega
  have e : (x + 1).toNat = x.toNat + 1 := by omega
  rw [e, List.drop_eq_getElem_cons hl]
  congr 1
  simp [rdOf, List.getD, hl]
theorem Jo.wrap_step {n : Nat} {x : Int} (h : (n : Nat) ≤ 9223372036854775807) (h0 : 0 ≤ x) (h1 : x < (n : Int)) : IntKind.i64.wrap (x + 1) = x + 1 := by
  rw [IntKind.wrap_i64]; omega
set_option maxHeartbeats 8000000 in
set_option maxRecDepth 100000 in
theorem Jo.calls (k : Nat) (a0_0 : Int) (a0_1 : ByteArray) (A0_2 : Option Addr) (c0_2 : Nat) (l0_2 : List ByteArray) (a0_3 : ByteArray) (a0_4 : ByteArray) (r : ByteArray) (w : World) (hr0_2 : Kd.C Kd.string w A0_2 l0_2.length l0_2) (hc0_2 : l0_2.length ≤ c0_2) (h : Jo.f k a0_0 a0_1 l0_2 a0_3 a0_4 = some r) :
    Calls Tryz.prog 44 #[.agg #[.int .i64 a0_0, .string a0_1, .slice A0_2 l0_2.length c0_2, .string a0_3, .string a0_4]] w fun e w' => e = .returned (.string r) ∧ Below w.heap.size w w' := by
  have hmf : ∀ (fn : Fn) (first cap : Array Value) (w : World), (Instr.makeFunc fn first cap).run Tryz.prog w = .ok (.func fn first cap) w := fun _ _ _ _ => rfl
  have HR0_2 := Aside0.mk hr0_2
  have HC0_2 := Aside0.mk hc0_2
  clear hr0_2 hc0_2
  unfold Jo.f at h
  obtain ⟨⟨t1, ok1⟩, hT1, h⟩ := Option.bind_eq_some_iff.mp h
  obtain ⟨⟨t3, ok3⟩, hT3, h⟩ := Option.bind_eq_some_iff.mp h
  dsimp only at h
  obtain ⟨bs, hbs⟩ : ∃ bs, (((([Jo.u8 a0_0] ++ t1.toList) ++ [Jo.u8 l0_2.length]) ++ Jo.cat l0_2) ++ t3.toList) = bs := ⟨_, rfl⟩
  rw [hbs] at h
  have hbl : bs.length ≤ 140737488355328 := by
    by_cases hh : bs.length ≤ 140737488355328
    · exact hh
    · rw [if_neg hh] at h; cases h
  rw [if_pos hbl] at h
  obtain rfl := Option.some.inj h
  have HL := Aside0.mk hbl
  have HT1 := Aside0.mk hT1
  have HT3 := Aside0.mk hT3
  have HBS0 := Aside0.mk hbs
  have HBL := Aside0.mk (show 2 + t1.size + (Jo.cat l0_2).length + t3.size = bs.length by rw [← hbs]; simp [Jo.size_toList]; omega)
  have hn2 := HR0_2.out.2.1
  clear h hbl hT1 hT3 hbs
  go_enter Tryz.func44, Tryz.ntmps44
  go_wp2_with (first | ((with_reducible refine gate_dst (N := 1) rfl ?_); refine box_event ?hg (N := 1) ?hd (cs := #[.int .i64 a0_0, .string a0_1, .slice A0_2 l0_2.length c0_2, .string a0_3, .string a0_4]) (t := 24) ?hr ?_; (case hd => rfl); (case hg => rfl); (case hr => first | (go_simp; done) | (go_simp; rfl)); intro gb hg w1 hbox hb; have BX1 := Aside0.mk hbox; have HB1 := Aside0.mk hb; have GE1 := Aside0.mk (show w.heap.size ≤ gb by omega); obtain ⟨hz0, hz1, hz2, hz3, hz4⟩ := Bld.five hbox; clear hbox hb hg) | ((with_reducible refine gate_dst (N := 3) rfl ?_); refine Kd.event_run (w1 := w1.alloc (.cells #[.pointer none, .slice none 0 0] 110)) (v := .pointer (some ⟨w1.heap.size, 0, none⟩)) ?hg ?hr ?_; (case hg => rfl); (case hr => first | (go_simp; done) | (go_simp; rfl)); have HSF := Aside0.mk (Bld.St.fresh w1); obtain ⟨b, hb_⟩ : ∃ b, b = w1.heap.size := ⟨_, rfl⟩; obtain ⟨w3, hw_⟩ : ∃ w3, w3 = w1.alloc (.cells #[.pointer none, .slice none 0 0] 110) := ⟨_, rfl⟩; rw [← hw_, ← hb_] at HSF; rw [← hw_, ← hb_]; have GB := Aside0.mk (show gb < b by rw [hb_]; exact blk_lt BX1.out); have LB := Aside0.mk (show w.heap.size ≤ b by have := GB.out; have := GE1.out; omega); have HS := HSF; clear HSF hb_ hw_; obtain ⟨hz0, hz1, hz2, hz3, hz4⟩ := Bld.five (HS.out.block BX1.out GB.out)) | (go_at_call 70; (refine (HS.out.byte _ ?s0 ?s1 ?s2).mono ?_); (case s0 => first | omega | (simp only [IntKind.wrap_u8]; omega)); (case s1 => first | omega | (simp only [IntKind.wrap_u8]; omega)); (case s2 => first | (simp; done) | (have := HL.out; have := HBL.out; simp [Jo.size_toList] at *; omega)); rintro e w4 ⟨rfl, hs⟩; have n0_ := Aside0.mk hs; clear HS hs; have HS := n0_; clear n0_; obtain ⟨hz0, hz1, hz2, hz3, hz4⟩ := Bld.five (HS.out.block BX1.out GB.out)) | (go_at_call 68; (refine (Jo.text_calls k _ t1 ok1 HS.out HT1.out ?s2).mono ?_); (case s2 => have := HL.out; have := HBL.out; simp at *; omega); rintro e w5 ⟨rfl, hs⟩; have n0_ := Aside0.mk hs; clear HS hs; have HS := n0_; clear n0_; obtain ⟨hz0, hz1, hz2, hz3, hz4⟩ := Bld.five (HS.out.block BX1.out GB.out)))
  go_loopg [24] l0_2.length (fun kq v24 w' => ∃ x : Int, v24 = .int .i64 x ∧ Aside0 (0 ≤ x ∧ x + (kq : Int) = (l0_2.length : Int)) ∧ Aside0 (∃ acc, acc ++ Jo.cat (l0_2.drop x.toNat) ++ t3.toList = bs ∧ Bld.St w1 b acc w'))
  case atStart => exact ⟨0, (by first | rfl | simp), ⟨by omega⟩, ⟨_, HBS0.out, HS.out⟩⟩
  case round =>
    clear hz0 hz1 hz2 hz3 hz4
    obtain ⟨x, rfl, HP, HE⟩ := hrel
    clear HS HBL HBS0
    obtain ⟨acc, hE, hS⟩ := HE.out
    have HS := Aside0.mk hS
    have hp := HP.out
    obtain ⟨hz0, hz1, hz2, hz3, hz4⟩ := Bld.five (HS.out.block BX1.out GB.out)
    cases gk with
    | zero =>
      have hc : decide (x < (l0_2.length : Int)) = false := decide_eq_false (by omega)
      have hd : l0_2.drop x.toNat = [] := List.drop_of_length_le (by omega)
      rw [hd] at hE
      have HBS := Aside0.mk (show acc ++ t3.toList = bs by rw [← hE]; simp [Jo.cat])
      have HBL := Aside0.mk (show acc.length + t3.size = bs.length by rw [← HBS.out]; simp [Jo.size_toList])
      clear hE hS hd HE hp HP
      go_wp2_with (first | (go_at_call 68; (refine (Jo.text_calls k _ t3 ok3 HS.out HT3.out ?s2).mono ?_); (case s2 => have := HL.out; have := HBL.out; simp at *; omega); rintro e w5 ⟨rfl, hs⟩; have n0_ := Aside0.mk hs; clear HS hs; have HS := n0_; clear n0_; obtain ⟨hz0, hz1, hz2, hz3, hz4⟩ := Bld.five (HS.out.block BX1.out GB.out)) | (go_at_call 71; have n0_ := Aside0.mk (HS.out.cast (show _ = bs from HBS.out)); clear HS; have HS := n0_; clear n0_; (refine HS.out.out.mono ?_); rintro e w7 ⟨rfl, hs⟩; have n0_ := Aside0.mk hs; clear HS hs; have HS := n0_; clear n0_))
      go_ret
      exact ⟨rfl, HS.out.below HB1.out LB.out⟩
    | succ k1 =>
      have hc : decide (x < (l0_2.length : Int)) = true := decide_eq_true (by omega)
      have p0 : (0 ≤ x) = True := eq_true (by omega)
      have q0 : (x < (l0_2.length : Int)) = True := eq_true (by omega)
      have hw1 := Jo.wrap_step (n := l0_2.length) (x := x) hn2 (by omega) (by omega)
      rw [Jo.drop_rd l0_2 x (by omega) (by omega)] at hE
      have HE2 := Aside0.mk (show (acc ++ (rdOf ByteArray.empty l0_2 x).toList) ++ Jo.cat (l0_2.drop (x + 1).toNat) ++ t3.toList = bs by rw [← hE]; simp [Jo.cat, List.append_assoc])
      have HBL := Aside0.mk (show acc.length + (rdOf ByteArray.empty l0_2 x).size + (Jo.cat (l0_2.drop (x + 1).toNat)).length + t3.size = bs.length by rw [← HE2.out]; simp [Jo.size_toList]; omega)
      obtain ⟨ad, e4_, hx⟩ := Kd.at_string HR0_2.out x (by omega) (by omega)
      cases e4_
      have hx0 := ((HS.out.below HB1.out LB.out).cell (World.block_lt_of_cell? w _ hx)).trans hx
      clear hE hS HE hx hp
      go_wp2_with (first | (go_at_call 69; (refine (HS.out.str _ ?s2).mono ?_); (case s2 => have := HL.out; have := HBL.out; simp at *; omega); rintro e w5 ⟨rfl, hs⟩; have n0_ := Aside0.mk hs; clear HS hs; have HS := n0_; clear n0_; obtain ⟨hz0, hz1, hz2, hz3, hz4⟩ := Bld.five (HS.out.block BX1.out GB.out)))
      go_roundg k1
      case measure => omega
      case rel => exact ⟨x + 1, (by first | rfl | (simp; done) | (simp [*]; done) | (refine congrArg (Value.int _) ?_; rw [hw1])), ⟨by have := HP.out; omega⟩, ⟨_, HE2.out, HS.out⟩⟩

/-! ### Ux = event_Encode: function 19 -/
def Ux.f (k : Nat) (a0_0 : Int) (a0_1 : ByteArray) (l0_2 : List ByteArray) (a0_3 : ByteArray) (a0_4 : ByteArray) : Option (ByteArray × Int) := (Jp.f k a0_0 a0_1 l0_2 a0_3 a0_4).bind fun t120 => (if t120 = true then ((Um.f k a0_4).bind fun bt121 => ((Jo.f k a0_0 a0_1 l0_2 a0_3 a0_4).bind fun t123 => (if t123.size + bt121.1.size ≤ 9223372036854775807 then (some (t123 ++ bt121.1, 0)) else (none)))) else (some ((⟨#[]⟩ : ByteArray), 2)))
set_option maxHeartbeats 64000000 in
set_option maxRecDepth 100000 in
theorem Ux.calls (k : Nat) (a0_0 : Int) (a0_1 : ByteArray) (A0_2 : Option Addr) (c0_2 : Nat) (l0_2 : List ByteArray) (a0_3 : ByteArray) (a0_4 : ByteArray) (r1 : ByteArray) (r2 : Int) (w : World) (hr0_2 : Kd.C Kd.string w A0_2 l0_2.length l0_2) (hc0_2 : l0_2.length ≤ c0_2) (h : Ux.f k a0_0 a0_1 l0_2 a0_3 a0_4 = some (r1, r2)) :
 Calls Tryz.prog 19 #[.agg #[.int .i64 a0_0, .string a0_1, .slice A0_2 l0_2.length c0_2, .string a0_3, .string a0_4]] w fun e w' => e = .returned (.tuple #[.string r1, .int .i64 r2]) ∧ Below w.heap.size w w' := by
 have hu24 := Tryz.underlying24
 have HR0_2 := Aside0.mk hr0_2
 have HC0_2 := Aside0.mk hc0_2
 clear hr0_2 hc0_2
 have HB := Aside0.mk (Below.refl w.heap.size w)
 have H : ((Jp.f k a0_0 a0_1 l0_2 a0_3 a0_4).bind fun t120 => (if t120 = true then ((Um.f k a0_4).bind fun bt121 => ((Jo.f k a0_0 a0_1 l0_2 a0_3 a0_4).bind fun t123 => (if t123.size + bt121.1.size ≤ 9223372036854775807 then (some (t123 ++ bt121.1, 0)) else (none)))) else (some ((⟨#[]⟩ : ByteArray), 2)))) = some (r1, r2) := h
 clear h
 revert H; refine oa_ fun t120 A2 H => ?_
 by_cases c3 : t120 = true
 ·subst c3
  have H1 : ((Um.f k a0_4).bind fun bt121 => ((Jo.f k a0_0 a0_1 l0_2 a0_3 a0_4).bind fun t123 => (if t123.size + bt121.1.size ≤ 9223372036854775807 then (some (t123 ++ bt121.1, 0)) else (none)))) = some (r1, r2) := by rw [if_pos rfl] at H; exact H
  clear H
  have H := H1
  clear H1
  replace H := ob_ H
  obtain ⟨⟨t121, t122⟩, A40, H⟩ := H
  replace H : ((Jo.f k a0_0 a0_1 l0_2 a0_3 a0_4).bind fun t123 => (if t123.size + t121.size ≤ 9223372036854775807 then (some (t123 ++ t121, 0)) else (none))) = some (r1, r2) := H
  have A4 := Aside0.mk A40
  clear A40
  revert H; refine oa_ fun t123 A5 => ne_ fun c6 c6b0 c6b1 H => ?_
  try have c6b2 : (9223372036854775807 < t123.size + t121.size) = False := eq_false (Nat.not_lt.2 c6)
  simp only [Option.some.injEq, Prod.mk.injEq] at H
  obtain ⟨rfl, rfl⟩ := H
  go_enter Tryz.func19, Tryz.ntmps19
  go_wp2_with (first | ((with_reducible refine gate_dst (N := 1) rfl ?_); refine box_event ?hg (N := 1) ?hd (cs := #[.int .i64 a0_0, .string a0_1, .slice A0_2 l0_2.length c0_2, .string a0_3, .string a0_4]) (t := 24) ?hr ?_; (case hd => rfl); (case hg => rfl); (case hr => exact gr_); intro gb119 hg w7 hbox hb; have GE119 := Aside0.mk ((by rw [hg]; exact (below_size bl_) : w.heap.size ≤ gb119)); have GW119 := Aside0.mk ((by rw [hg]; exact (below_size bl_) : w.heap.size ≤ gb119)); have BK119 := Aside0.mk (hbox); replace HB := Aside0.mk (below_step bl_ hb); clear hb hbox hg; obtain ⟨hcz8_0, hcz8_1, hcz8_2, hcz8_3, hcz8_4⟩ := c5_ BK119.out; obtain ⟨hfz8_0, hfz8_1, hfz8_2, hfz8_3, hfz8_4⟩ := f5_ BK119.out) | ((with_reducible refine gate_callee (f := 27) rfl ?_); refine gL_ 7 Tryz.func27 #[.agg #[.int .i64 a0_0, .string a0_1, .slice A0_2 l0_2.length c0_2, .string a0_3, .string a0_4]] ?_; (with_reducible refine (Jp.calls k a0_0 a0_1 _ _ l0_2 a0_3 a0_4 true _ ?side1 ?side2 A2.out).mono ?_); (case side1 => repeat (first | exact (Kd.C_below HR0_2.out HB.out) | (with_reducible refine Kd.C_alloc ?_ _) | (with_reducible refine Kd.C_drewN ?_ _) | (with_reducible refine Kd.C_drew ?_))); (case side2 => exact HC0_2.out); rintro e w9 ⟨rfl, hb⟩; refine ⟨_, rfl, ?_⟩; replace HB := Aside0.mk (below_step (bs_ GE119.out) hb); replace BK119 := Aside0.mk (blk_below (g := gb119) (o := .cells #[.int .i64 a0_0, .string a0_1, .slice A0_2 l0_2.length c0_2, .string a0_3, .string a0_4] 24 (0, 0)) (mb_ BK119.out) hb); clear hb; obtain ⟨hcz10_0, hcz10_1, hcz10_2, hcz10_3, hcz10_4⟩ := c5_ BK119.out; obtain ⟨hfz10_0, hfz10_1, hfz10_2, hfz10_3, hfz10_4⟩ := f5_ BK119.out) | ((with_reducible refine gate_callee (f := 43) rfl ?_); refine gL_ 12 Tryz.func43 #[.string a0_4] ?_; (with_reducible refine (Um.calls k a0_4 t121 t122 _ A4.out).mono ?_); rintro e w11 ⟨rfl, hb⟩; refine ⟨_, rfl, ?_⟩; replace HB := Aside0.mk (below_step (bs_ GE119.out) hb); replace BK119 := Aside0.mk (blk_below (g := gb119) (o := .cells #[.int .i64 a0_0, .string a0_1, .slice A0_2 l0_2.length c0_2, .string a0_3, .string a0_4] 24 (0, 0)) (mb_ BK119.out) hb); clear hb; obtain ⟨hcz12_0, hcz12_1, hcz12_2, hcz12_3, hcz12_4⟩ := c5_ BK119.out; obtain ⟨hfz12_0, hfz12_1, hfz12_2, hfz12_3, hfz12_4⟩ := f5_ BK119.out) | ((with_reducible refine gate_callee (f := 44) rfl ?_); refine gL_ 16 Tryz.func44 #[.agg #[.int .i64 a0_0, .string a0_1, .slice A0_2 l0_2.length c0_2, .string a0_3, .string a0_4]] ?_; (with_reducible refine (Jo.calls k a0_0 a0_1 _ _ l0_2 a0_3 a0_4 t123 _ ?side1 ?side2 A5.out).mono ?_); (case side1 => repeat (first | exact (Kd.C_below HR0_2.out HB.out) | (with_reducible refine Kd.C_alloc ?_ _) | (with_reducible refine Kd.C_drewN ?_ _) | (with_reducible refine Kd.C_drew ?_))); (case side2 => exact HC0_2.out); rintro e w13 ⟨rfl, hb⟩; refine ⟨_, rfl, ?_⟩; replace HB := Aside0.mk (below_step (bs_ GE119.out) hb); replace BK119 := Aside0.mk (blk_below (g := gb119) (o := .cells #[.int .i64 a0_0, .string a0_1, .slice A0_2 l0_2.length c0_2, .string a0_3, .string a0_4] 24 (0, 0)) (mb_ BK119.out) hb); clear hb))
  go_ret2
  exact ⟨er_, bs_ GE119.out⟩
 replace c3 := Bool.eq_false_iff.mpr c3
 subst c3
 have H1 : (some ((⟨#[]⟩ : ByteArray), 2)) = some (r1, r2) := by rw [if_neg (show ¬ (false = true) by decide)] at H; exact H
 clear H
 have H := H1
 clear H1
 simp only [Option.some.injEq, Prod.mk.injEq] at H
 obtain ⟨rfl, rfl⟩ := H
 go_enter Tryz.func19, Tryz.ntmps19
 go_wp2_with (first | ((with_reducible refine gate_dst (N := 1) rfl ?_); refine box_event ?hg (N := 1) ?hd (cs := #[.int .i64 a0_0, .string a0_1, .slice A0_2 l0_2.length c0_2, .string a0_3, .string a0_4]) (t := 24) ?hr ?_; (case hd => rfl); (case hg => rfl); (case hr => exact gr_); intro gb119 hg w14 hbox hb; have GE119 := Aside0.mk ((by rw [hg]; exact (below_size bl_) : w.heap.size ≤ gb119)); have GW119 := Aside0.mk ((by rw [hg]; exact (below_size bl_) : w.heap.size ≤ gb119)); have BK119 := Aside0.mk (hbox); replace HB := Aside0.mk (below_step bl_ hb); clear hb hbox hg; obtain ⟨hcz15_0, hcz15_1, hcz15_2, hcz15_3, hcz15_4⟩ := c5_ BK119.out; obtain ⟨hfz15_0, hfz15_1, hfz15_2, hfz15_3, hfz15_4⟩ := f5_ BK119.out) | ((with_reducible refine gate_callee (f := 27) rfl ?_); refine gL_ 7 Tryz.func27 #[.agg #[.int .i64 a0_0, .string a0_1, .slice A0_2 l0_2.length c0_2, .string a0_3, .string a0_4]] ?_; (with_reducible refine (Jp.calls k a0_0 a0_1 _ _ l0_2 a0_3 a0_4 false _ ?side1 ?side2 A2.out).mono ?_); (case side1 => repeat (first | exact (Kd.C_below HR0_2.out HB.out) | (with_reducible refine Kd.C_alloc ?_ _) | (with_reducible refine Kd.C_drewN ?_ _) | (with_reducible refine Kd.C_drew ?_))); (case side2 => exact HC0_2.out); rintro e w16 ⟨rfl, hb⟩; refine ⟨_, rfl, ?_⟩; replace HB := Aside0.mk (below_step (bs_ GE119.out) hb); replace BK119 := Aside0.mk (blk_below (g := gb119) (o := .cells #[.int .i64 a0_0, .string a0_1, .slice A0_2 l0_2.length c0_2, .string a0_3, .string a0_4] 24 (0, 0)) (mb_ BK119.out) hb); clear hb))
 go_ret2
 exact ⟨er_, bs_ GE119.out⟩

/-! ### U4 = sha_begin: function 96 -/
def U4.f : Option Unit := some ()
set_option maxHeartbeats 8000000 in
set_option maxRecDepth 100000 in
theorem U4.calls (w : World) (h : U4.f = some ()) :
    Calls Tryz.prog 96 #[] w fun e w' => e = .returned (.agg #[.int .u32 1779033703, .int .u32 3144134277, .int .u32 1013904242, .int .u32 2773480762, .int .u32 1359893119, .int .u32 2600822924, .int .u32 528734635, .int .u32 1541459225]) ∧ Below w.heap.size w w' := by
  go_enter Tryz.func96, Tryz.ntmps96
  go_wp2_with (first
    | ((with_reducible refine gate_dst (N := 0) rfl ?_); refine Kd.event_run (w1 := w.alloc (.cells (encs (Value.int .u32) (List.replicate 8 0)).toArray 136)) (v := .pointer (some ⟨w.heap.size, 0, none⟩)) ?hg ?hr ?_; (case hg => rfl); (case hr => first | (go_simp; done) | (go_simp; rfl)); obtain ⟨W1, hW1⟩ : ∃ W1, W1 = w.alloc (.cells (encs (Value.int .u32) (List.replicate 8 0)).toArray 136) := ⟨_, rfl⟩; rw [← hW1]; have hh : W1.heap[w.heap.size]? = some (.cells (encs (Value.int .u32) (List.replicate 8 0)).toArray 136 (0, 0)) := (by rw [hW1]; exact heap_alloc_new w _); have hb : Below w.heap.size w W1 := (by rw [hW1]; exact below_alloc (Below.refl _ _) _); clear hW1)
    | ((with_reducible refine gate_store (t := 136) (p := 0) rfl ?_); refine store_event (t := 136) (p := 0) (v := ?vo) (w1 := W1.setCells w.heap.size 0 (encs (Value.int .u32) [1779033703, 3144134277, 1013904242, 2773480762, 1359893119, 2600822924, 528734635, 1541459225])) ?hg ?ho ?hn ?hr ?_; (case ho => rfl); (case hg => rfl); (case hn => rfl); (case hr => exact store_run0 [1779033703, 3144134277, 1013904242, 2773480762, 1359893119, 2600822924, 528734635, 1541459225] rfl rfl rfl (by kernel_rfl) hh (by rfl)); intro W2 hw; have hh2 := store_heap0 (encs (Value.int .u32) [1779033703, 3144134277, 1013904242, 2773480762, 1359893119, 2600822924, 528734635, 1541459225]) hh (by rfl); have hb2 := store_below0 (encs (Value.int .u32) [1779033703, 3144134277, 1013904242, 2773480762, 1359893119, 2600822924, 528734635, 1541459225]) hb (Nat.le_refl _); rw [← hw] at hh2 hb2; clear hw hh hb))
  (try simp only [Exit.inBlock, Exit.then])
  refine bodyPost_ret (results_cell_row rfl _ _ w.heap.size 136 (encs (Value.int .u32) [1779033703, 3144134277, 1013904242, 2773480762, 1359893119, 2600822924, 528734635, 1541459225]).toArray (0, 0) _ rfl hh2 Tryz.underlying136 rfl (by kernel_rfl)) rfl ?_
  exact ⟨rfl, hb2⟩

/-! ### Ju = bits_RotateLeft32: function 107 -/
def Ju.f (a0 : Int) (a1 : Int) : Option (Int) := if 0 ≤ (Go.bits .and .u64 (IntKind.u64.wrap (a1)) 31) then (if 0 ≤ (IntKind.u64.wrap (32 - (Go.bits .and .u64 (IntKind.u64.wrap (a1)) 31))) then (some (Go.bits .or .u32 (shl .u32 a0 (Go.bits .and .u64 (IntKind.u64.wrap (a1)) 31)) (shr .u32 a0 (IntKind.u64.wrap (32 - (Go.bits .and .u64 (IntKind.u64.wrap (a1)) 31)))))) else (none)) else (none)
set_option maxHeartbeats 64000000 in
set_option maxRecDepth 100000 in
theorem Ju.calls (a0 : Int) (a1 : Int) (r : Int) (w : World) (h : Ju.f a0 a1 = some r) :
 Calls Tryz.prog 107 #[.int .u32 a0, .int .i64 a1] w fun e w' => e = .returned (.int .u32 r) ∧ Drawn0 w w' := by
 have H : (if 0 ≤ (Go.bits .and .u64 (IntKind.u64.wrap (a1)) 31) then (if 0 ≤ (IntKind.u64.wrap (32 - (Go.bits .and .u64 (IntKind.u64.wrap (a1)) 31))) then (some (Go.bits .or .u32 (shl .u32 a0 (Go.bits .and .u64 (IntKind.u64.wrap (a1)) 31)) (shr .u32 a0 (IntKind.u64.wrap (32 - (Go.bits .and .u64 (IntKind.u64.wrap (a1)) 31)))))) else (none)) else (none)) = some r := h
 clear h
 generalize hji3 : (Go.bits .and .u64 (IntKind.u64.wrap (a1)) 31) = ji3 at H
 revert H; refine ne_ fun c4 c4b0 c4b1 H => ?_
 clear c4
 generalize hji5 : (shl .u32 a0 (ji3)) = ji5 at H
 have hji5_ : (IntKind.u32.wrap (a0 * 2 ^ min (ji3).toNat 32)) = ji5 := hji5
 have hji5z : (ji3) ≤ 32 → (IntKind.u32.wrap (a0 * 2 ^ (ji3).toNat)) = ji5 := shl_small hji5
 generalize hji6 : (IntKind.u64.wrap (32 - (ji3))) = ji6 at H
 revert H; refine ne_ fun c7 c7b0 c7b1 H => ?_
 clear c7
 generalize hji8 : (shr .u32 a0 (ji6)) = ji8 at H
 have hji8_ : (a0 / 2 ^ min (ji6).toNat 32) = ji8 := hji8
 have hji8z : (ji6) ≤ 32 → (a0 / 2 ^ (ji6).toNat) = ji8 := shr_small hji8
 obtain rfl := Option.some.inj H
 go_enter Tryz.func107, Tryz.ntmps107
 go_wp2
 go_ret
 exact ⟨by first | rfl | (simp; done) | (simp only [← hji3, ← hji5, ← hji6, ← hji8] <;> (first | rfl | simp)) | (simp [*]; done) | exact congrArg Value.bool (nonempty_l _) | (refine congrArg (Value.int _) ?_; first | omega | (unfold wrap64; omega)), by repeat (first | exact Drawn0.refl _ | apply Drawn0.step)⟩

/-! ### Jb = sha_state_block: function 97 -/
mutual
def Jb.l0 : Nat → List Int → ByteArray → List Int → Int → Option (List Int)
 | 0, _, _, _, _ => none
 | k + 1, x0, x1, x4, x22 => if x22 < 16 then (if 0 ≤ (wrap64 (4 * x22)) then (if (wrap64 (4 * x22)) < (x1.size : Int) then (if 0 ≤ (wrap64 ((wrap64 (4 * x22)) + 1)) then (if (wrap64 ((wrap64 (4 * x22)) + 1)) < (x1.size : Int) then (if 0 ≤ (wrap64 ((wrap64 (4 * x22)) + 2)) then (if (wrap64 ((wrap64 (4 * x22)) + 2)) < (x1.size : Int) then (if 0 ≤ (wrap64 ((wrap64 (4 * x22)) + 3)) then (if (wrap64 ((wrap64 (4 * x22)) + 3)) < (x1.size : Int) then (if x4.length = 64 then (if 0 ≤ x22 then (if x22 < (x4.length : Int) then (Jb.l0 k x0 x1 (x4.set (x22 : Int).toNat (Go.bits .or .u32 (Go.bits .or .u32 (Go.bits .or .u32 ((((bt x1 (wrap64 (4 * x22))) % 4294967296) * 16777216) % 4294967296) ((((bt x1 (wrap64 ((wrap64 (4 * x22)) + 1))) % 4294967296) * 65536) % 4294967296)) ((((bt x1 (wrap64 ((wrap64 (4 * x22)) + 2))) % 4294967296) * 256) % 4294967296)) ((bt x1 (wrap64 ((wrap64 (4 * x22)) + 3))) % 4294967296))) (wrap64 (x22 + 1))) else (none)) else (none)) else (none)) else (none)) else (none)) else (none)) else (none)) else (none)) else (none)) else (none)) else (none)) else (Jb.l1 k x0 x4 16)
def Jb.l1 : Nat → List Int → List Int → Int → Option (List Int)
 | 0, _, _, _ => none
 | k + 1, x0, x4, x6 => if x6 < 64 then (if x4.length = 64 then (if 0 ≤ (wrap64 (x6 - 15)) then (if (wrap64 (x6 - 15)) < (x4.length : Int) then (if 0 ≤ (wrap64 (x6 - 2)) then (if (wrap64 (x6 - 2)) < (x4.length : Int) then (if 0 ≤ (wrap64 (x6 - 16)) then (if (wrap64 (x6 - 16)) < (x4.length : Int) then (if 0 ≤ (wrap64 (x6 - 7)) then (if (wrap64 (x6 - 7)) < (x4.length : Int) then ((Ju.f (rd x4 (wrap64 (x6 - 15))) (-7)).bind fun t132 => ((Ju.f (rd x4 (wrap64 (x6 - 15))) (-18)).bind fun t133 => ((Ju.f (rd x4 (wrap64 (x6 - 2))) (-17)).bind fun t134 => ((Ju.f (rd x4 (wrap64 (x6 - 2))) (-19)).bind fun t135 => (if 0 ≤ x6 then (if x6 < (x4.length : Int) then (Jb.l1 k x0 (x4.set (x6 : Int).toNat (((((rd x4 (wrap64 (x6 - 16))) + (rd x4 (wrap64 (x6 - 7)))) + (Go.bits .xor .u32 (Go.bits .xor .u32 t132 t133) ((rd x4 (wrap64 (x6 - 15))) / 8))) + (Go.bits .xor .u32 (Go.bits .xor .u32 t134 t135) ((rd x4 (wrap64 (x6 - 2))) / 1024))) % 4294967296)) (wrap64 (x6 + 1))) else (none)) else (none)))))) else (none)) else (none)) else (none)) else (none)) else (none)) else (none)) else (none)) else (none)) else (none)) else (if x0.length = 8 then (if 0 < (x0.length : Int) then (if 1 < (x0.length : Int) then (if 2 < (x0.length : Int) then (if 3 < (x0.length : Int) then (if 4 < (x0.length : Int) then (if 5 < (x0.length : Int) then (if 6 < (x0.length : Int) then (if 7 < (x0.length : Int) then (Jb.l2 k x0 x4 (rd x0 0) (rd x0 1) (rd x0 2) (rd x0 3) (rd x0 4) (rd x0 5) (rd x0 6) (rd x0 7) 0) else (none)) else (none)) else (none)) else (none)) else (none)) else (none)) else (none)) else (none)) else (none))
def Jb.l2 : Nat → List Int → List Int → Int → Int → Int → Int → Int → Int → Int → Int → Int → Option (List Int)
 | 0, _, _, _, _, _, _, _, _, _, _, _ => none
 | k + 1, x0, x4, x9, x10, x11, x12, x13, x14, x15, x16, x130 => if x130 < 64 then ((Ju.f x13 (-6)).bind fun t145 => ((Ju.f x13 (-11)).bind fun t146 => ((Ju.f x13 (-25)).bind fun t147 => (if keysL.length = 64 then (if 0 ≤ x130 then (if x130 < (keysL.length : Int) then (if x4.length = 64 then (if x130 < (x4.length : Int) then ((Ju.f x9 (-2)).bind fun t150 => ((Ju.f x9 (-13)).bind fun t151 => ((Ju.f x9 (-22)).bind fun t152 => (Jb.l2 k x0 x4 ((((((x16 + (Go.bits .xor .u32 (Go.bits .xor .u32 t145 t146) t147)) + (Go.bits .xor .u32 (Go.bits .and .u32 x13 x14) (Go.bits .and .u32 (Go.bits .xor .u32 4294967295 x13) x15))) + (rd keysL x130)) + (rd x4 x130)) + ((Go.bits .xor .u32 (Go.bits .xor .u32 t150 t151) t152) + (Go.bits .xor .u32 (Go.bits .xor .u32 (Go.bits .and .u32 x9 x10) (Go.bits .and .u32 x9 x11)) (Go.bits .and .u32 x10 x11)))) % 4294967296) x9 x10 x11 ((x12 + ((((x16 + (Go.bits .xor .u32 (Go.bits .xor .u32 t145 t146) t147)) + (Go.bits .xor .u32 (Go.bits .and .u32 x13 x14) (Go.bits .and .u32 (Go.bits .xor .u32 4294967295 x13) x15))) + (rd keysL x130)) + (rd x4 x130))) % 4294967296) x13 x14 x15 (wrap64 (x130 + 1)))))) else (none)) else (none)) else (none)) else (none)) else (none))))) else (Jb.l3 k x0 x9 x10 x11 x12 x13 x14 x15 x16 0)
def Jb.l3 : Nat → List Int → Int → Int → Int → Int → Int → Int → Int → Int → Int → Option (List Int)
 | 0, _, _, _, _, _, _, _, _, _, _ => none
 | k + 1, x0, x9, x10, x11, x12, x13, x14, x15, x16, x202 => if x202 < 8 then (if 0 ≤ x202 then (if x0.length = 8 then (if 0 < (x0.length : Int) then (if x202 < (x0.length : Int) then (Jb.l3 k (x0.set (x202 : Int).toNat (((rd x0 x202) + (rd [x9, x10, x11, x12, x13, x14, x15, x16] x202)) % 4294967296)) x9 x10 x11 x12 x13 x14 x15 x16 (wrap64 (x202 + 1))) else (none)) else (none)) else (none)) else (none)) else (some x0)
end
def Jb.f (k : Nat) (l0 : List Int) (a1 : ByteArray) : Option (List Int) := Jb.l0 k l0 a1 (List.replicate 64 0) 0
def Jb.T4 : Bool × List (List Nat × List Nat) := (true, [([], []), ([], []), ([], []), ([2], [2]), ([1, 3], [1, 3]), ([4], [4]), ([5], [5]), ([], []), ([], []), ([8], [8]), ([9], [9]), ([7, 10], [7, 10]), ([11], [11]), ([12], [12]), ([6, 13], [6, 13]), ([], []), ([], []), ([16], [16]), ([17], [17]), ([15, 18], [15, 18]), ([19], [19]), ([20], [20]), ([14, 21], [14, 21]), ([], []), ([], []), ([24], [24]), ([25], [25]), ([23, 26], [23, 26]), ([27], [27]), ([22, 28], [22, 28]), ([0, 0, 1, 2, 3, 4, 5, 6, 7, 8, 9, 10, 11, 12, 13, 14, 15, 16, 17, 18, 19, 20, 21, 22, 23, 24, 25, 26, 27, 28, 29], [0]), ([30, 29, 0, 1, 2, 3, 4, 5, 6, 7, 8, 9, 10, 11, 12, 13, 14, 15, 16, 17, 18, 19, 20, 21, 22, 23, 24, 25, 26, 27, 28, 29], [29, 30])])
def Jb.B4 : List Nat := [0, 0, 0, 4, 14, 30, 62, 0, 0, 256, 768, 1920, 3968, 8064, 16382, 0, 0, 65536, 196608, 491520, 1015808, 2064384, 4194302, 0, 0, 16777216, 50331648, 125829120, 260046848, 536870910, 1073741823, 2147483647]
theorem Jb.tab4 : rtab .any (opsOf Tryz.f97 4) = Jb.T4 := by kernel_rfl
theorem Jb.bits4 : waitsOk Jb.T4.2 Jb.B4 = true := by kernel_rfl
def Jb.T9 : Bool × List (List Nat × List Nat) := (true, [([], []), ([0], [0]), ([1], [1]), ([2], [2]), ([], []), ([4], [4]), ([5], [5]), ([6], [6]), ([3, 0, 1, 2, 3], [3]), ([7, 8, 0, 1, 2, 3, 4, 5, 6, 7, 8], [7])])
def Jb.B9 : List Nat := [0, 1, 3, 7, 0, 16, 48, 112, 15, 511]
theorem Jb.tab9 : rtab .any (opsOf Tryz.f97 9) = Jb.T9 := by kernel_rfl
theorem Jb.bits9 : waitsOk Jb.T9.2 Jb.B9 = true := by kernel_rfl
def Jb.T10 : Bool × List (List Nat × List Nat) := (true, [([], []), ([], []), ([1], [1]), ([2], [2]), ([3], [3]), ([], []), ([5], [5]), ([6], [6]), ([7], [7]), ([4, 8], [4, 8]), ([], []), ([10], [10]), ([], []), ([12, 11], [12]), ([11, 13], [11, 13]), ([], []), ([15], [15]), ([14, 16], [14, 16]), ([9, 17], [9, 17]), ([], []), ([19, 13], [19]), ([], []), ([21, 20], [21]), ([20, 22], [20, 22]), ([], []), ([24], [24]), ([23, 25], [23, 25]), ([18, 26], [18, 26]), ([0, 0, 1, 2, 3, 4, 5, 6, 7, 8, 9, 10, 11, 12, 13, 14, 15, 16, 17, 18, 19, 20, 21, 22, 23, 24, 25, 26, 27], [0]), ([28, 27, 22, 0, 1, 2, 3, 4, 5, 6, 7, 8, 9, 10, 11, 12, 13, 14, 15, 16, 17, 18, 19, 20, 21, 22, 23, 24, 25, 26, 27], [27, 28])])
def Jb.B10 : List Nat := [0, 0, 2, 6, 14, 0, 32, 96, 224, 510, 0, 1024, 0, 7168, 15360, 0, 32768, 130048, 262142, 0, 539648, 0, 3685376, 7879680, 0, 16777216, 66599936, 134217726, 268435455, 536870911]
theorem Jb.tab10 : rtab .any (opsOf Tryz.f97 10) = Jb.T10 := by kernel_rfl
theorem Jb.bits10 : waitsOk Jb.T10.2 Jb.B10 = true := by kernel_rfl
def Jb.T11 : Bool × List (List Nat × List Nat) := (true, [([], []), ([0], [0]), ([1], [1]), ([2], [2]), ([], []), ([4], [4]), ([5], [5]), ([6], [6]), ([], []), ([8], [8]), ([9], [9]), ([10], [10]), ([], []), ([12], [12]), ([13], [13]), ([14], [14]), ([], []), ([16], [16]), ([17], [17]), ([18], [18]), ([], []), ([20], [20]), ([21], [21]), ([22], [22]), ([], []), ([24], [24]), ([25], [25]), ([26], [26]), ([], []), ([28], [28]), ([29], [29]), ([30], [30]), ([3, 0, 1, 2, 3], [3]), ([7, 32, 0, 1, 2, 3, 4, 5, 6, 7, 32], [7]), ([11, 33, 0, 1, 2, 3, 4, 5, 6, 7, 8, 9, 10, 11, 32, 33], [11]), ([15, 34, 0, 1, 2, 3, 4, 5, 6, 7, 8, 9, 10, 11, 12, 13, 14, 15, 32, 33, 34], [15]), ([19, 35, 0, 1, 2, 3, 4, 5, 6, 7, 8, 9, 10, 11, 12, 13, 14, 15, 16, 17, 18, 19, 32, 33, 34, 35], [19]), ([23, 36, 0, 1, 2, 3, 4, 5, 6, 7, 8, 9, 10, 11, 12, 13, 14, 15, 16, 17, 18, 19, 20, 21, 22, 23, 32, 33, 34, 35, 36], [23]), ([27, 37, 0, 1, 2, 3, 4, 5, 6, 7, 8, 9, 10, 11, 12, 13, 14, 15, 16, 17, 18, 19, 20, 21, 22, 23, 24, 25, 26, 27, 32, 33, 34, 35, 36, 37], [27]), ([31, 38, 0, 1, 2, 3, 4, 5, 6, 7, 8, 9, 10, 11, 12, 13, 14, 15, 16, 17, 18, 19, 20, 21, 22, 23, 24, 25, 26, 27, 28, 29, 30, 31, 32, 33, 34, 35, 36, 37, 38], [31])])
def Jb.B11 : List Nat := [0, 1, 3, 7, 0, 16, 48, 112, 0, 256, 768, 1792, 0, 4096, 12288, 28672, 0, 65536, 196608, 458752, 0, 1048576, 3145728, 7340032, 0, 16777216, 50331648, 117440512, 0, 268435456, 805306368, 1879048192, 15, 4294967551, 12884905983, 30064836607, 64425558015, 133160763391, 270851375103, 549755813887]
theorem Jb.tab11 : rtab .any (opsOf Tryz.f97 11) = Jb.T11 := by kernel_rfl
theorem Jb.bits11 : waitsOk Jb.T11.2 Jb.B11 = true := by kernel_rfl
def Jb.T15 : Bool × List (List Nat × List Nat) := (true, [([], []), ([], []), ([1], [1]), ([], []), ([3, 2], [3]), ([2, 4], [2, 4]), ([], []), ([6, 4], [6]), ([5, 7], [5, 7]), ([0, 8], [0, 8]), ([], []), ([], []), ([10, 11], [10, 11]), ([], []), ([13], [13]), ([], []), ([14, 15], [14, 15]), ([12, 16], [12, 16]), ([9, 17], [9, 17]), ([], []), ([19], [19]), ([20], [20]), ([18, 21], [18, 21]), ([], []), ([23], [23]), ([24], [24]), ([22, 25], [22, 25]), ([26, 7, 0, 1, 2, 3, 4, 5, 6, 7, 8, 9, 10, 11, 12, 13, 14, 15, 16, 17, 18, 19, 20, 21, 22, 23, 24, 25, 26], [26])])
def Jb.B15 : List Nat := [0, 0, 2, 0, 14, 30, 0, 94, 254, 511, 0, 0, 3072, 0, 8192, 0, 57344, 130048, 262143, 0, 524288, 1572864, 4194303, 0, 8388608, 25165824, 67108863, 134217727]
theorem Jb.tab15 : rtab .any (opsOf Tryz.f97 15) = Jb.T15 := by kernel_rfl
theorem Jb.bits15 : waitsOk Jb.T15.2 Jb.B15 = true := by kernel_rfl
def Jb.T22 : Bool × List (List Nat × List Nat) := (true, [([], []), ([], []), ([0], [0]), ([2, 1], [1, 2]), ([3], [3]), ([], []), ([4, 5], [4, 5]), ([0], [0]), ([7, 1, 0, 1, 2, 3, 4, 5, 6], [1, 7]), ([8, 6, 0, 1, 2, 3, 4, 5, 6], [6, 8])])
def Jb.B22 : List Nat := [0, 0, 1, 7, 15, 0, 63, 1, 255, 511]
theorem Jb.tab22 : rtab .any (opsOf Tryz.f97 22) = Jb.T22 := by kernel_rfl
theorem Jb.bits22 : waitsOk Jb.T22.2 Jb.B22 = true := by kernel_rfl
set_option maxHeartbeats 64000000 in
set_option maxRecDepth 100000 in
theorem Jb.calls (k : Nat) (P0_ : Nat → Prop) (u9000_ : Value) (l0 : List Int) (a1 : ByteArray) (r : List Int) (w0 w : World) (hB : Below w0.heap.size w0 w) (ho0 : Kd.R (Kd.int .u32) 136 w w0.heap.size P0_ u9000_ l0) (hrG : ∀ W_, Kept w W_ (fun k_ => P0_ k_) → Kd.C (Kd.int .u32) W_ (some ⟨0, 0, none⟩) keysL.length keysL) (h : Jb.f k l0 a1 = some r) :
 Calls Tryz.prog 97 #[.pointer (ptrOf u9000_), .string a1] w fun e w' => e = .returned (.tuple #[]) ∧ Kd.R (Kd.int .u32) 136 w' w0.heap.size (fun k_ => (P0_ k_ ∨ w.heap.size ≤ k_)) u9000_ r ∧ Below w0.heap.size w0 w' ∧ Kept w w' (fun k_ => P0_ k_) := by
 have hu132 := Tryz.underlying132
 have hu130 := Tryz.underlying130
 have HO0 := Aside0.mk (show Kd.R (Kd.int .u32) 136 w w0.heap.size (fun k_ => (P0_ k_ ∨ w.heap.size ≤ k_)) u9000_ l0 from Kd.R_mono ho0 (fun k_ hk => (.inl hk)))
 have HRG := Aside0.mk hrG
 clear hrG
 have HK := Aside0.mk (Kept.refl w (fun k_ => P0_ k_))
 have HW0 := Aside0.mk hB.size
 have HB := Aside0.mk hB
 clear hB
 have H : (Jb.l0 k l0 a1 (List.replicate 64 0) 0) = some r := h
 clear h
 generalize e_ : (List.replicate 64 0 : List Int) = y124 at H
 have Ny124 := Aside0.mk e_.symm
 clear e_
 have H' := Aside0.mk H
 clear H
 go_enter Tryz.func97, Tryz.ntmps97
 go_wp2_with (first | ((with_reducible refine gate_dst (N := 4) rfl ?_); refine R_arr (Value.int .u32) (fun _ => rfl) _ 132 ?hg (N := 4) ?hd (List.replicate 64 0) ?hr (Below.refl _ _) (Nat.le_refl _) (by decide) ?_; (case hd => rfl); (case hg => rfl); (case hr => exact gr_); intro v125 w3 ho4 hb hg_ hnew_; clear hg_ hnew_; (first | rw [← Ny124.out] at ho4 | (simp only [Int.reduceToNat] at ho4; rw [← Ny124.out] at ho4)); have HO126 := Aside0.mk (Kd.R_lower (Kd.R_newM (M := fun k_ => (P0_ k_ ∨ w.heap.size ≤ k_)) ho4 (by first | exact HK.out.1 | exact (show Kept w _ (fun k_ => P0_ k_) from by repeat (first | (with_reducible first | exact HK.out | apply Kept.alloc | apply Kept.drewN | apply Kept.drew) | exact HK.out)).1) (fun k_ h_ => .inr h_)) (below_size bl_)); replace HB := Aside0.mk (below_step bl_ hb); replace HK := Aside0.mk (Kept.below (S := (fun k_ => P0_ k_)) (by repeat (first | (with_reducible first | exact HK.out | apply Kept.alloc | apply Kept.drewN | apply Kept.drew) | exact HK.out)) hb); replace HO0 := Aside0.mk (Kd.R_below (mv_ HO0.out) hb); clear hb ho4))
 go_loopg [22] k (fun kq v22 w' => ∃ (x4_1 : List Int) (x22_1 : Int), v22 = .int .i64 x22_1 ∧ Aside0 (Jb.l0 kq l0 a1 x4_1 x22_1 = some r) ∧ Aside0 (kq ≤ k) ∧ Aside0 (Kd.R (Kd.int .u32) 136 w' w0.heap.size (fun k_ => (P0_ k_ ∨ w.heap.size ≤ k_)) u9000_ l0) ∧ Aside0 (Kd.R (Kd.int .u32) 132 w' w0.heap.size (fun k_ => (P0_ k_ ∨ w.heap.size ≤ k_)) v125 x4_1) ∧ Aside0 (Kept w w' (fun k_ => P0_ k_)) ∧ Aside0 (Below w0.heap.size w0 w'))
 case atStart => exact ⟨(y124), (0), vq_, H', ⟨Nat.le_refl _⟩, ⟨mv_ HO0.out⟩, ⟨by refine mv_ ?_; exact Kd.R_mono HO126.out (fun _ hk => hk.1)⟩, ⟨by repeat (first | (with_reducible first | exact HK.out | apply Kept.alloc | apply Kept.drewN | apply Kept.drew) | exact HK.out)⟩, ⟨bl_⟩⟩
 case round =>
  clear H'
  obtain ⟨x4_1, x22_1, rfl, HA, HK1, HO_0, HO_4, HK, HB⟩ := hrel
  cases gk with
  | zero => exact absurd HA.out (by simp [Jb.l0])
  | succ k1 =>
   have H := HA.out
   clear HA
   simp only [Jb.l0] at H
   by_cases c5 : x22_1 < 16
   ·rw [if_pos c5] at H
    have c5b0 : decide (x22_1 < 16) = true := decide_eq_true c5
    clear c5
    generalize hji6 : (wrap64 (4 * x22_1)) = ji6 at H
    have hji6w := (i64_w _).trans hji6
    revert H; refine nd_ fun c7 c7b0 => nd_ fun c8 c8b0 H => ?_
    clear c7 c8
    generalize hji10 : (wrap64 ((ji6) + 1)) = ji10 at H
    have hji10w := (i64_w _).trans hji10
    revert H; refine nd_ fun c11 c11b0 => nd_ fun c12 c12b0 H => ?_
    clear c11 c12
    generalize hji14 : (wrap64 ((ji6) + 2)) = ji14 at H
    have hji14w := (i64_w _).trans hji14
    revert H; refine nd_ fun c15 c15b0 => nd_ fun c16 c16b0 H => ?_
    clear c15 c16
    generalize hji18 : (wrap64 ((ji6) + 3)) = ji18 at H
    have hji18w := (i64_w _).trans hji18
    revert H; refine nd_ fun c19 c19b0 => nd_ fun c20 c20b0 => ne_ fun c22 c22b0 c22b1 => nd_ fun c23 c23b0 => nd_ fun c24 c24b0 H => ?_
    clear c19 c20 c22 c23 c24
    generalize e_ : (x4_1.set (x22_1 : Int).toNat (Go.bits .or .u32 (Go.bits .or .u32 (Go.bits .or .u32 ((((bt a1 (ji6)) % 4294967296) * 16777216) % 4294967296) ((((bt a1 (ji10)) % 4294967296) * 65536) % 4294967296)) ((((bt a1 (ji14)) % 4294967296) * 256) % 4294967296)) ((bt a1 (ji18)) % 4294967296)) : List Int) = y127 at H
    have Ny127 := Aside0.mk e_.symm
    clear e_
    have H' := Aside0.mk H
    clear H
    try go_wp2
    replace HB := Aside0.mk (below_drew1 HB.out)
    replace HK := Aside0.mk (Kept.drew HK.out)
    replace HO_4 := Aside0.mk (Kd.R_drew HO_4.out)
    replace HO_0 := Aside0.mk (Kd.R_drew HO_0.out)
    have p9 := eq_true (ad_ : 0 ≤ ((ji6) : Int))
    have q9 := eq_true (ad_ : (ji6) < (a1.size : Int))
    have hx9 := bt_at a1 (ji6)
    have p13 := eq_true (ad_ : 0 ≤ ((ji10) : Int))
    have q13 := eq_true (ad_ : (ji10) < (a1.size : Int))
    have hx13 := bt_at a1 (ji10)
    have p17 := eq_true (ad_ : 0 ≤ ((ji14) : Int))
    have q17 := eq_true (ad_ : (ji14) < (a1.size : Int))
    have hx17 := bt_at a1 (ji14)
    have p21 := eq_true (ad_ : 0 ≤ ((ji18) : Int))
    have q21 := eq_true (ad_ : (ji18) < (a1.size : Int))
    have hx21 := bt_at a1 (ji18)
    have qa25 : ((x22_1 : Int) < (64 : Int)) = True := qa_ x4_1 64
    have p25 : 0 ≤ (x22_1 : Int) := ad_
    have q25 : (x22_1 : Int) < ((x4_1.length : Int) : Int) := ad_
    obtain ⟨go25, co25, eo25, gb25, gl25, cl25, HG25⟩ := Kd.R_form HO_4.out (by omega)
    (first | cases eo25 | (injection eo25 with ea_ en_ ec_; (first | subst ea_ | (injection ea_ with ea_; subst ea_)); subst ec_; clear en_))
    have GB25 := Aside0.mk gb25
    have GG25 := Aside0.mk HG25
    clear gb25 gl25 HG25
    have HMgo25 := Aside0.mk (show (P0_ go25 ∨ w.heap.size ≤ go25) from (HO_4.out.1 _ rfl))
    obtain ⟨hx25_0, hf25_0⟩ := Kd.R_celln 0 HO_4.out (x22_1 : Int) p25 q25
    replace p25 := eq_true p25
    replace q25 := eq_true q25
    have HP27 := Kd.R_putn HO_4.out (x22_1 : Int) (Go.bits .or .u32 (Go.bits .or .u32 (Go.bits .or .u32 ((((bt a1 (ji6)) % 4294967296) * 16777216) % 4294967296) ((((bt a1 (ji10)) % 4294967296) * 65536) % 4294967296)) ((((bt a1 (ji14)) % 4294967296) * 256) % 4294967296)) ((bt a1 (ji18)) % 4294967296))
    rw [← Ny127.out] at HP27
    have HQ27 := Aside0.mk HP27
    clear HP27
    refine sK_ 32 (fun w' => True) [31] Jb.tab4 Jb.bits4 trivial fun hHeld HT_ HW_ => ?_
    generalize wr.drew = w26 at HO_0 HO_4 HK HB GG25 HQ27 hf25_0 hx25_0 hHeld ⊢
    refine runs_ [(0, some 25), (1, some 26), (2, some 27), (3, some 28), (7, some 32), (8, some 33), (9, some 34), (10, some 35), (15, some 40), (16, some 41), (17, some 42), (18, some 43), (23, some 48), (24, some 49), (25, some 50), (26, some 51), (4, some 29), (5, some 30), (6, some 31), (11, some 36), (12, some 37), (13, some 38), (14, some 39), (19, some 44), (20, some 45), (21, some 46), (22, some 47), (27, some 52), (28, some 53), (29, some 54), (30, some 55)] ?_
    (iterate 16 (refine pL_ ?_)); refine tL_ ?_; (iterate 2 (refine pL_ ?_)); (iterate 3 (refine tL_ ?_; iterate 3 (refine pL_ ?_))); refine runsE_ ?_
    refine lK_ 31 none fun K hK => ?_
    refine skip_set ⟨go25, (x22_1 : Int).toNat, none⟩ (.int .u32 (Go.bits .or .u32 (Go.bits .or .u32 (Go.bits .or .u32 ((((bt a1 (ji6)) % 4294967296) * 16777216) % 4294967296) ((((bt a1 (ji10)) % 4294967296) * 65536) % 4294967296)) ((((bt a1 (ji14)) % 4294967296) * 256) % 4294967296)) ((bt a1 (ji18)) % 4294967296))) (by rfl) rfl ?_ ?_
    ·first | (go_simp; done) | (go_simp; rfl) | (go_simp; (try simp only [IntKind.wrap_u32, IntKind.wrap_u8]); refine congrArg (fun v_ => World.setCell _ _ (Value.int _ v_)) ?_; omega)
    refine hK.out _ _ ?_
    clear hK K
    refine dK_ ?_
    try go_wp2
    go_roundg k1
    case measure => have := HK1.out; omega
    case rel => exact ⟨(y127), (wrap64 (x22_1 + 1)), vq_, H', ⟨by have := HK1.out; omega⟩, ⟨by refine mv_ ?_; exact Kd.R_mono (Kd.R_far (p := ⟨go25, (x22_1 : Int).toNat, none⟩) (Kd.R_types HO_0.out GG25.out (by decide)) (fun _ hk => hk.2) (.int .u32 (Go.bits .or .u32 (Go.bits .or .u32 (Go.bits .or .u32 ((((bt a1 (ji6)) % 4294967296) * 16777216) % 4294967296) ((((bt a1 (ji10)) % 4294967296) * 65536) % 4294967296)) ((((bt a1 (ji14)) % 4294967296) * 256) % 4294967296)) ((bt a1 (ji18)) % 4294967296)))) (fun _ hk => hk.1)⟩, ⟨mv_ HQ27.out⟩, ⟨by repeat (first | (with_reducible first | exact HK.out | apply Kept.alloc | apply Kept.drewN | apply Kept.drew | refine Kept.setCell ?_ HMgo25.out _) | exact HK.out)⟩, ⟨bs_ GB25.out⟩⟩
   rw [if_neg c5] at H
   have c5b0 : decide (x22_1 < 16) = false := decide_eq_false c5
   clear c5
   have H' := Aside0.mk H
   clear H
   go_wp2
   go_loopg [6] k1 (fun kq v6 w' => ∃ (x4_2 : List Int) (x6_2 : Int), v6 = .int .i64 x6_2 ∧ Aside0 (Jb.l1 kq l0 x4_2 x6_2 = some r) ∧ Aside0 (kq ≤ k1) ∧ Aside0 (Kd.R (Kd.int .u32) 136 w' w0.heap.size (fun k_ => (P0_ k_ ∨ w.heap.size ≤ k_)) u9000_ l0) ∧ Aside0 (Kd.R (Kd.int .u32) 132 w' w0.heap.size (fun k_ => (P0_ k_ ∨ w.heap.size ≤ k_)) v125 x4_2) ∧ Aside0 (Kept w w' (fun k_ => P0_ k_)) ∧ Aside0 (Below w0.heap.size w0 w'))
   case atStart => exact ⟨(x4_1), (16), vq_, H', ⟨Nat.le_refl _⟩, ⟨mv_ HO_0.out⟩, ⟨mv_ HO_4.out⟩, ⟨by repeat (first | (with_reducible first | exact HK.out | apply Kept.alloc | apply Kept.drewN | apply Kept.drew) | exact HK.out)⟩, ⟨bl_⟩⟩
   case round =>
    clear H'
    clear c5b0
    obtain ⟨x4_2, x6_2, rfl, HA, HK2, HO_0, HO_4, HK, HB⟩ := hrel
    cases gk with
    | zero => exact absurd HA.out (by simp [Jb.l1])
    | succ k2 =>
     have H := HA.out
     clear HA
     simp only [Jb.l1] at H
     by_cases c28 : x6_2 < 64
     ·rw [if_pos c28] at H
      have c28b0 : decide (x6_2 < 64) = true := decide_eq_true c28
      clear c28
      revert H; refine ne_ fun c29 c29b0 c29b1 H => ?_
      clear c29
      generalize hji30 : (wrap64 (x6_2 - 15)) = ji30 at H
      have hji30w := (i64_w _).trans hji30
      revert H; refine nd_ fun c31 c31b0 => nd_ fun c32 c32b0 H => ?_
      clear c31 c32
      generalize hji33 : (wrap64 (x6_2 - 2)) = ji33 at H
      have hji33w := (i64_w _).trans hji33
      revert H; refine nd_ fun c34 c34b0 => nd_ fun c35 c35b0 H => ?_
      clear c34 c35
      generalize hji36 : (wrap64 (x6_2 - 16)) = ji36 at H
      have hji36w := (i64_w _).trans hji36
      revert H; refine nd_ fun c37 c37b0 => nd_ fun c38 c38b0 H => ?_
      clear c37 c38
      generalize hji39 : (wrap64 (x6_2 - 7)) = ji39 at H
      have hji39w := (i64_w _).trans hji39
      revert H; refine nd_ fun c40 c40b0 => nd_ fun c41 c41b0 => oa_ fun t132 A42 => oa_ fun t133 A43 => oa_ fun t134 A44 => oa_ fun t135 A45 => nd_ fun c46 c46b0 => nd_ fun c47 c47b0 H => ?_
      clear c40 c41 c46 c47
      generalize e_ : (x4_2.set (x6_2 : Int).toNat (((((rd x4_2 (ji36)) + (rd x4_2 (ji39))) + (Go.bits .xor .u32 (Go.bits .xor .u32 t132 t133) ((rd x4_2 (ji30)) / 8))) + (Go.bits .xor .u32 (Go.bits .xor .u32 t134 t135) ((rd x4_2 (ji33)) / 1024))) % 4294967296) : List Int) = y136 at H
      have Ny136 := Aside0.mk e_.symm
      clear e_
      have H' := Aside0.mk H
      clear H
      try go_wp2
      replace HB := Aside0.mk (below_drew1 HB.out)
      replace HK := Aside0.mk (Kept.drew HK.out)
      replace HO_4 := Aside0.mk (Kd.R_drew HO_4.out)
      replace HO_0 := Aside0.mk (Kd.R_drew HO_0.out)
      obtain ⟨Ao50, co50, eo50⟩ := Kd.R_slice HO_4.out
      (first | subst eo50 | (injection eo50 with f1_ f2_ f3_; have f4_ := f1_.symm; have f5_ := f3_.symm; clear f1_ f2_ f3_; subst f4_; subst f5_))
      have qa128 : (((ji30) : Int) < (64 : Int)) = True := qa_ x4_2 64
      have p128 : 0 ≤ ((ji30) : Int) := ad_
      have q128 : (ji30) < (x4_2.length : Int) := ad_
      obtain ⟨ad128, e128, hx128_0⟩ := Kd.at_int (Kd.R_reads' HO_4.out).2.2 (ji30) p128 q128
      cases e128
      replace p128 := eq_true p128
      replace q128 := eq_true q128
      have qa129 : (((ji33) : Int) < (64 : Int)) = True := qa_ x4_2 64
      have p129 : 0 ≤ ((ji33) : Int) := ad_
      have q129 : (ji33) < (x4_2.length : Int) := ad_
      obtain ⟨ad129, e129, hx129_0⟩ := Kd.at_int (Kd.R_reads' HO_4.out).2.2 (ji33) p129 q129
      obtain rfl : ad128 = ad129 := (by injection e129)
      replace p129 := eq_true p129
      replace q129 := eq_true q129
      refine sK_ 10 (fun w' => w'.cell? (ad128.add ((ji30)).toNat) = some (.int .u32 (rd x4_2 (ji30))) ∧ w'.cell? (ad128.add ((ji33)).toNat) = some (.int .u32 (rd x4_2 (ji33)))) [] Jb.tab9 Jb.bits9 ⟨hx128_0, hx129_0⟩ fun hHeld HT_ HW_ => ?_
      generalize wr.drew = w49 at HO_0 HO_4 HK HB hx128_0 hx129_0 hHeld ⊢
      refine runs_ [(0, some 61), (1, some 62), (2, some 63), (4, some 65), (5, some 66), (6, some 67), (3, some 64), (8, some 7), (7, some 68), (9, some 8)] ?_
      (iterate 6 (refine pL_ ?_)); refine tL_ ?_; refine pL_ ?_; refine tL_ ?_; refine pL_ ?_; refine runsE_ ?_
      refine dK_ ?_
      try go_wp2
      replace HB := Aside0.mk (below_drew1 HB.out)
      replace HK := Aside0.mk (Kept.drew HK.out)
      replace HO_4 := Aside0.mk (Kd.R_drew HO_4.out)
      replace HO_0 := Aside0.mk (Kd.R_drew HO_0.out)
      have qa130 : (((ji36) : Int) < (64 : Int)) = True := qa_ x4_2 64
      have p130 : 0 ≤ ((ji36) : Int) := ad_
      have q130 : (ji36) < (x4_2.length : Int) := ad_
      obtain ⟨ad130, e130, hx130_0⟩ := Kd.at_int (Kd.R_reads' HO_4.out).2.2 (ji36) p130 q130
      obtain rfl : ad128 = ad130 := (by injection e130)
      replace p130 := eq_true p130
      replace q130 := eq_true q130
      have qa131 : (((ji39) : Int) < (64 : Int)) = True := qa_ x4_2 64
      have p131 : 0 ≤ ((ji39) : Int) := ad_
      have q131 : (ji39) < (x4_2.length : Int) := ad_
      obtain ⟨ad131, e131, hx131_0⟩ := Kd.at_int (Kd.R_reads' HO_4.out).2.2 (ji39) p131 q131
      obtain rfl : ad128 = ad131 := (by injection e131)
      replace p131 := eq_true p131
      replace q131 := eq_true q131
      refine sK_ 30 (fun w' => w'.cell? (ad128.add ((ji36)).toNat) = some (.int .u32 (rd x4_2 (ji36))) ∧ w'.cell? (ad128.add ((ji39)).toNat) = some (.int .u32 (rd x4_2 (ji39)))) [29] Jb.tab10 Jb.bits10 ⟨hx130_0, hx131_0⟩ fun hHeld HT_ HW_ => ?_
      generalize w49.drew = w51 at HO_0 HO_4 HK HB hx130_0 hx131_0 hHeld ⊢
      refine runs_ [(0, some 69), (1, some 70), (2, some 71), (3, some 72), (5, some 74), (6, some 75), (7, some 76), (10, some 79), (12, some 81), (15, some 84), (16, some 85), (19, some 88), (21, some 90), (24, some 93), (25, some 94), (4, some 73), (8, some 77), (9, some 78)] ?_
      (iterate 15 (refine pL_ ?_)); (iterate 2 (refine tL_ ?_)); refine pL_ ?_; refine runsE_ ?_
      refine oK_ 11 (some 80) fun K hK => ?_
      refine goes_ Tryz.func107 (by kernel_rfl) rfl #[.int .u32 (rd x4_2 (ji30)), .int .i64 (-7)] (by rfl) rfl rfl (by (simp only [List.map_toArray, List.map_cons, List.map_nil]); first | done | (simp only [hji30]; rfl) | rfl | (simp only [List.length_drop, List.length_take]; rfl)) ?_
      with_reducible refine (Ju.calls (rd x4_2 (ji30)) (-7) t132 _ A42.out).mono ?_
      rintro e w' ⟨rfl, ⟨nd, rfl⟩⟩
      refine ⟨_, rfl, ?_⟩
      refine hK.out _ _ ⟨hHeld.1, hHeld.2⟩ (fun hHeld => ?_)
      clear hK K
      refine nK_ (some 80) ?_
      refine oK_ 13 (some 82) fun K hK => ?_
      refine goes_ Tryz.func107 (by kernel_rfl) rfl #[.int .u32 (rd x4_2 (ji30)), .int .i64 (-18)] (by rfl) rfl rfl (by (simp only [List.map_toArray, List.map_cons, List.map_nil]); first | done | (simp only [hji30]; rfl) | rfl | (simp only [List.length_drop, List.length_take]; rfl)) ?_
      with_reducible refine (Ju.calls (rd x4_2 (ji30)) (-18) t133 _ A43.out).mono ?_
      rintro e w' ⟨rfl, ⟨nd, rfl⟩⟩
      refine ⟨_, rfl, ?_⟩
      refine hK.out _ _ ⟨hHeld.1, hHeld.2⟩ (fun hHeld => ?_)
      clear hK K
      refine nK_ (some 82) ?_
      refine runs_ [(14, some 83), (17, some 86), (18, some 87)] ?_
      (iterate 3 (refine pL_ ?_)); refine runsE_ ?_
      refine oK_ 20 (some 89) fun K hK => ?_
      refine goes_ Tryz.func107 (by kernel_rfl) rfl #[.int .u32 (rd x4_2 (ji33)), .int .i64 (-17)] (by rfl) rfl rfl (by (simp only [List.map_toArray, List.map_cons, List.map_nil]); first | done | (simp only [hji33]; rfl) | rfl | (simp only [List.length_drop, List.length_take]; rfl)) ?_
      with_reducible refine (Ju.calls (rd x4_2 (ji33)) (-17) t134 _ A44.out).mono ?_
      rintro e w' ⟨rfl, ⟨nd, rfl⟩⟩
      refine ⟨_, rfl, ?_⟩
      refine hK.out _ _ ⟨hHeld.1, hHeld.2⟩ (fun hHeld => ?_)
      clear hK K
      refine nK_ (some 89) ?_
      refine oK_ 22 (some 91) fun K hK => ?_
      refine goes_ Tryz.func107 (by kernel_rfl) rfl #[.int .u32 (rd x4_2 (ji33)), .int .i64 (-19)] (by rfl) rfl rfl (by (simp only [List.map_toArray, List.map_cons, List.map_nil]); first | done | (simp only [hji33]; rfl) | rfl | (simp only [List.length_drop, List.length_take]; rfl)) ?_
      with_reducible refine (Ju.calls (rd x4_2 (ji33)) (-19) t135 _ A45.out).mono ?_
      rintro e w' ⟨rfl, ⟨nd, rfl⟩⟩
      refine ⟨_, rfl, ?_⟩
      have qa48 : ((x6_2 : Int) < (64 : Int)) = True := qa_ x4_2 64
      have p48 : 0 ≤ (x6_2 : Int) := ad_
      have q48 : (x6_2 : Int) < ((x4_2.length : Int) : Int) := ad_
      obtain ⟨go48, co48, eo48, gb48, gl48, cl48, HG48⟩ := Kd.R_form HO_4.out (by omega)
      (first | cases eo48 | (injection eo48 with ea_ en_ ec_; (first | subst ea_ | (injection ea_ with ea_; subst ea_)); subst ec_; clear en_))
      have GB48 := Aside0.mk gb48
      have GG48 := Aside0.mk HG48
      clear gb48 gl48 HG48
      have HMgo48 := Aside0.mk (show (P0_ go48 ∨ w.heap.size ≤ go48) from (HO_4.out.1 _ rfl))
      (first | simp only [add_plain] at hx128_0 | skip)
      (first | simp only [add_plain] at hx129_0 | skip)
      (first | simp only [add_plain] at hx130_0 | skip)
      (first | simp only [add_plain] at hx131_0 | skip)
      obtain ⟨hx48_0, hf48_0⟩ := Kd.R_celln 0 HO_4.out (x6_2 : Int) p48 q48
      replace p48 := eq_true p48
      replace q48 := eq_true q48
      have HP52 := Kd.R_putn HO_4.out (x6_2 : Int) (((((rd x4_2 (ji36)) + (rd x4_2 (ji39))) + (Go.bits .xor .u32 (Go.bits .xor .u32 t132 t133) ((rd x4_2 (ji30)) / 8))) + (Go.bits .xor .u32 (Go.bits .xor .u32 t134 t135) ((rd x4_2 (ji33)) / 1024))) % 4294967296)
      rw [← Ny136.out] at HP52
      have HQ52 := Aside0.mk HP52
      clear HP52
      refine hK.out _ _ ⟨hHeld.1, hHeld.2⟩ (fun hHeld => ?_)
      clear hK K
      refine nK_ (some 91) ?_
      refine runs_ [(23, some 92), (26, some 95), (27, some 96), (28, some 97)] ?_
      (iterate 4 (refine pL_ ?_)); refine runsE_ ?_
      refine lK_ 29 none fun K hK => ?_
      refine skip_set ⟨go48, (x6_2 : Int).toNat, none⟩ (.int .u32 (((((rd x4_2 (ji36)) + (rd x4_2 (ji39))) + (Go.bits .xor .u32 (Go.bits .xor .u32 t132 t133) ((rd x4_2 (ji30)) / 8))) + (Go.bits .xor .u32 (Go.bits .xor .u32 t134 t135) ((rd x4_2 (ji33)) / 1024))) % 4294967296)) (by rfl) rfl ?_ ?_
      ·first | (go_simp; done) | (go_simp; rfl) | (go_simp; (simp only [IntKind.wrap_u32, IntKind.wrap_u8]); refine congrArg (fun v_ => World.setCell _ _ (Value.int _ v_)) ?_; omega)
      refine hK.out _ _ ?_
      clear hK K
      refine dK_ ?_
      try go_wp2
      go_roundg k2
      case measure => have := HK1.out; have := HK2.out; omega
      case rel => exact ⟨(y136), (wrap64 (x6_2 + 1)), vq_, H', ⟨by have := HK1.out; have := HK2.out; omega⟩, ⟨by refine mv_ ?_; exact Kd.R_mono (Kd.R_far (p := ⟨go48, (x6_2 : Int).toNat, none⟩) (Kd.R_types HO_0.out GG48.out (by decide)) (fun _ hk => hk.2) (.int .u32 (((((rd x4_2 (ji36)) + (rd x4_2 (ji39))) + (Go.bits .xor .u32 (Go.bits .xor .u32 t132 t133) ((rd x4_2 (ji30)) / 8))) + (Go.bits .xor .u32 (Go.bits .xor .u32 t134 t135) ((rd x4_2 (ji33)) / 1024))) % 4294967296))) (fun _ hk => hk.1)⟩, ⟨mv_ HQ52.out⟩, ⟨by repeat (first | (with_reducible first | exact HK.out | apply Kept.alloc | apply Kept.drewN | apply Kept.drew | refine Kept.setCell ?_ HMgo48.out _) | exact HK.out)⟩, ⟨bs_ GB48.out⟩⟩
     rw [if_neg c28] at H
     have c28b0 : decide (x6_2 < 64) = false := decide_eq_false c28
     clear c28
     revert H; refine ne_ fun c53 c53b0 c53b1 => nd_ fun c54 c54b0 => nd_ fun c57 c57b0 => nd_ fun c59 c59b0 => nd_ fun c61 c61b0 => nd_ fun c63 c63b0 => nd_ fun c65 c65b0 => nd_ fun c67 c67b0 => nd_ fun c69 c69b0 H => ?_
     have c54b1 : decide (0 < l0.length) = true := decide_eq_true (by omega)
     have c57b1 : decide (1 < l0.length) = true := decide_eq_true (by omega)
     have c59b1 : decide (2 < l0.length) = true := decide_eq_true (by omega)
     have c61b1 : decide (3 < l0.length) = true := decide_eq_true (by omega)
     have c63b1 : decide (4 < l0.length) = true := decide_eq_true (by omega)
     have c65b1 : decide (5 < l0.length) = true := decide_eq_true (by omega)
     have c67b1 : decide (6 < l0.length) = true := decide_eq_true (by omega)
     have c69b1 : decide (7 < l0.length) = true := decide_eq_true (by omega)
     clear c53 c54 c57 c59 c61 c63 c65 c67 c69
     have H' := Aside0.mk H
     clear H
     try go_wp2
     replace HB := Aside0.mk (below_drew1 HB.out)
     replace HK := Aside0.mk (Kept.drew HK.out)
     replace HO_4 := Aside0.mk (Kd.R_drew HO_4.out)
     replace HO_0 := Aside0.mk (Kd.R_drew HO_0.out)
     have qa55 : ((0 : Int) < (8 : Int)) = True := qa_ l0 8
     have p55 : 0 ≤ (0 : Int) := (by omega)
     have q55 : (0 : Int) < ((l0.length : Int) : Int) := ad_
     have qi55 : (0 < l0.length) = True := eq_true (by omega)
     obtain ⟨go55, co55, eo55, gb55, gl55, cl55, HG55⟩ := Kd.R_form HO_0.out (by omega)
     (first | cases eo55 | (injection eo55 with ea_ en_ ec_; (first | subst ea_ | (injection ea_ with ea_; subst ea_)); subst ec_; clear en_))
     have GB55 := Aside0.mk gb55
     have GG55 := Aside0.mk HG55
     clear gb55 gl55 HG55
     have HMgo55 := Aside0.mk (show (P0_ go55 ∨ w.heap.size ≤ go55) from (HO_0.out.1 _ rfl))
     obtain ⟨hx55_0, hf55_0⟩ := Kd.R_celln 0 HO_0.out (0 : Int) p55 q55
     rw [show ((0 : Int)).toNat = 0 from rfl] at hx55_0
     rw [show ((0 : Int)).toNat = 0 from rfl] at hf55_0
     replace p55 := eq_true p55
     replace q55 := eq_true q55
     have qa137 : ((0 : Int) < (8 : Int)) = True := qa_ l0 8
     have p137 : 0 ≤ (0 : Int) := (by omega)
     have q137 : 0 < (l0.length : Int) := ad_
     obtain ⟨ad137, e137, hx137_0⟩ := Kd.at_int (Kd.R_reads' HO_0.out).2.2 0 p137 q137
     obtain rfl : (⟨go55, 0, none⟩ : Addr) = ad137 := (by injection e137)
     (first | simp only [add_plain] at hx137_0 | simp only [add_at] at hx137_0 | simp only [Addr.add, Nat.zero_add] at hx137_0 | skip)
     have qi137 : (0 < l0.length) = True := eq_true (by omega)
     rw [show ((0 : Int)).toNat = 0 from rfl] at hx137_0
     replace p137 := eq_true p137
     replace q137 := eq_true q137
     have qa56 : ((0 : Int) < (8 : Int)) = True := qa_ l0 8
     have p56 : 0 ≤ (0 : Int) := (by omega)
     have q56 : (0 : Int) < ((l0.length : Int) : Int) := ad_
     have qi56 : (0 < l0.length) = True := eq_true (by omega)
     obtain ⟨hx56_0, hf56_0⟩ := Kd.R_celln 0 HO_0.out (0 : Int) p56 q56
     rw [show ((0 : Int)).toNat = 0 from rfl] at hx56_0
     rw [show ((0 : Int)).toNat = 0 from rfl] at hf56_0
     replace p56 := eq_true p56
     replace q56 := eq_true q56
     have qa138 : ((1 : Int) < (8 : Int)) = True := qa_ l0 8
     have p138 : 0 ≤ (1 : Int) := (by omega)
     have q138 : 1 < (l0.length : Int) := ad_
     obtain ⟨ad138, e138, hx138_0⟩ := Kd.at_int (Kd.R_reads' HO_0.out).2.2 1 p138 q138
     obtain rfl : (⟨go55, 0, none⟩ : Addr) = ad138 := (by injection e138)
     (first | simp only [add_plain] at hx138_0 | simp only [add_at] at hx138_0 | simp only [Addr.add, Nat.zero_add] at hx138_0 | skip)
     have qi138 : (1 < l0.length) = True := eq_true (by omega)
     rw [show ((1 : Int)).toNat = 1 from rfl] at hx138_0
     replace p138 := eq_true p138
     replace q138 := eq_true q138
     have qa58 : ((0 : Int) < (8 : Int)) = True := qa_ l0 8
     have p58 : 0 ≤ (0 : Int) := (by omega)
     have q58 : (0 : Int) < ((l0.length : Int) : Int) := ad_
     have qi58 : (0 < l0.length) = True := eq_true (by omega)
     obtain ⟨hx58_0, hf58_0⟩ := Kd.R_celln 0 HO_0.out (0 : Int) p58 q58
     rw [show ((0 : Int)).toNat = 0 from rfl] at hx58_0
     rw [show ((0 : Int)).toNat = 0 from rfl] at hf58_0
     replace p58 := eq_true p58
     replace q58 := eq_true q58
     have qa139 : ((2 : Int) < (8 : Int)) = True := qa_ l0 8
     have p139 : 0 ≤ (2 : Int) := (by omega)
     have q139 : 2 < (l0.length : Int) := ad_
     obtain ⟨ad139, e139, hx139_0⟩ := Kd.at_int (Kd.R_reads' HO_0.out).2.2 2 p139 q139
     obtain rfl : (⟨go55, 0, none⟩ : Addr) = ad139 := (by injection e139)
     (first | simp only [add_plain] at hx139_0 | simp only [add_at] at hx139_0 | simp only [Addr.add, Nat.zero_add] at hx139_0 | skip)
     have qi139 : (2 < l0.length) = True := eq_true (by omega)
     rw [show ((2 : Int)).toNat = 2 from rfl] at hx139_0
     replace p139 := eq_true p139
     replace q139 := eq_true q139
     have qa60 : ((0 : Int) < (8 : Int)) = True := qa_ l0 8
     have p60 : 0 ≤ (0 : Int) := (by omega)
     have q60 : (0 : Int) < ((l0.length : Int) : Int) := ad_
     have qi60 : (0 < l0.length) = True := eq_true (by omega)
     obtain ⟨hx60_0, hf60_0⟩ := Kd.R_celln 0 HO_0.out (0 : Int) p60 q60
     rw [show ((0 : Int)).toNat = 0 from rfl] at hx60_0
     rw [show ((0 : Int)).toNat = 0 from rfl] at hf60_0
     replace p60 := eq_true p60
     replace q60 := eq_true q60
     have qa140 : ((3 : Int) < (8 : Int)) = True := qa_ l0 8
     have p140 : 0 ≤ (3 : Int) := (by omega)
     have q140 : 3 < (l0.length : Int) := ad_
     obtain ⟨ad140, e140, hx140_0⟩ := Kd.at_int (Kd.R_reads' HO_0.out).2.2 3 p140 q140
     obtain rfl : (⟨go55, 0, none⟩ : Addr) = ad140 := (by injection e140)
     (first | simp only [add_plain] at hx140_0 | simp only [add_at] at hx140_0 | simp only [Addr.add, Nat.zero_add] at hx140_0 | skip)
     have qi140 : (3 < l0.length) = True := eq_true (by omega)
     rw [show ((3 : Int)).toNat = 3 from rfl] at hx140_0
     replace p140 := eq_true p140
     replace q140 := eq_true q140
     have qa62 : ((0 : Int) < (8 : Int)) = True := qa_ l0 8
     have p62 : 0 ≤ (0 : Int) := (by omega)
     have q62 : (0 : Int) < ((l0.length : Int) : Int) := ad_
     have qi62 : (0 < l0.length) = True := eq_true (by omega)
     obtain ⟨hx62_0, hf62_0⟩ := Kd.R_celln 0 HO_0.out (0 : Int) p62 q62
     rw [show ((0 : Int)).toNat = 0 from rfl] at hx62_0
     rw [show ((0 : Int)).toNat = 0 from rfl] at hf62_0
     replace p62 := eq_true p62
     replace q62 := eq_true q62
     have qa141 : ((4 : Int) < (8 : Int)) = True := qa_ l0 8
     have p141 : 0 ≤ (4 : Int) := (by omega)
     have q141 : 4 < (l0.length : Int) := ad_
     obtain ⟨ad141, e141, hx141_0⟩ := Kd.at_int (Kd.R_reads' HO_0.out).2.2 4 p141 q141
     obtain rfl : (⟨go55, 0, none⟩ : Addr) = ad141 := (by injection e141)
     (first | simp only [add_plain] at hx141_0 | simp only [add_at] at hx141_0 | simp only [Addr.add, Nat.zero_add] at hx141_0 | skip)
     have qi141 : (4 < l0.length) = True := eq_true (by omega)
     rw [show ((4 : Int)).toNat = 4 from rfl] at hx141_0
     replace p141 := eq_true p141
     replace q141 := eq_true q141
     have qa64 : ((0 : Int) < (8 : Int)) = True := qa_ l0 8
     have p64 : 0 ≤ (0 : Int) := (by omega)
     have q64 : (0 : Int) < ((l0.length : Int) : Int) := ad_
     have qi64 : (0 < l0.length) = True := eq_true (by omega)
     obtain ⟨hx64_0, hf64_0⟩ := Kd.R_celln 0 HO_0.out (0 : Int) p64 q64
     rw [show ((0 : Int)).toNat = 0 from rfl] at hx64_0
     rw [show ((0 : Int)).toNat = 0 from rfl] at hf64_0
     replace p64 := eq_true p64
     replace q64 := eq_true q64
     have qa142 : ((5 : Int) < (8 : Int)) = True := qa_ l0 8
     have p142 : 0 ≤ (5 : Int) := (by omega)
     have q142 : 5 < (l0.length : Int) := ad_
     obtain ⟨ad142, e142, hx142_0⟩ := Kd.at_int (Kd.R_reads' HO_0.out).2.2 5 p142 q142
     obtain rfl : (⟨go55, 0, none⟩ : Addr) = ad142 := (by injection e142)
     (first | simp only [add_plain] at hx142_0 | simp only [add_at] at hx142_0 | simp only [Addr.add, Nat.zero_add] at hx142_0 | skip)
     have qi142 : (5 < l0.length) = True := eq_true (by omega)
     rw [show ((5 : Int)).toNat = 5 from rfl] at hx142_0
     replace p142 := eq_true p142
     replace q142 := eq_true q142
     have qa66 : ((0 : Int) < (8 : Int)) = True := qa_ l0 8
     have p66 : 0 ≤ (0 : Int) := (by omega)
     have q66 : (0 : Int) < ((l0.length : Int) : Int) := ad_
     have qi66 : (0 < l0.length) = True := eq_true (by omega)
     obtain ⟨hx66_0, hf66_0⟩ := Kd.R_celln 0 HO_0.out (0 : Int) p66 q66
     rw [show ((0 : Int)).toNat = 0 from rfl] at hx66_0
     rw [show ((0 : Int)).toNat = 0 from rfl] at hf66_0
     replace p66 := eq_true p66
     replace q66 := eq_true q66
     have qa143 : ((6 : Int) < (8 : Int)) = True := qa_ l0 8
     have p143 : 0 ≤ (6 : Int) := (by omega)
     have q143 : 6 < (l0.length : Int) := ad_
     obtain ⟨ad143, e143, hx143_0⟩ := Kd.at_int (Kd.R_reads' HO_0.out).2.2 6 p143 q143
     obtain rfl : (⟨go55, 0, none⟩ : Addr) = ad143 := (by injection e143)
     (first | simp only [add_plain] at hx143_0 | simp only [add_at] at hx143_0 | simp only [Addr.add, Nat.zero_add] at hx143_0 | skip)
     have qi143 : (6 < l0.length) = True := eq_true (by omega)
     rw [show ((6 : Int)).toNat = 6 from rfl] at hx143_0
     replace p143 := eq_true p143
     replace q143 := eq_true q143
     have qa68 : ((0 : Int) < (8 : Int)) = True := qa_ l0 8
     have p68 : 0 ≤ (0 : Int) := (by omega)
     have q68 : (0 : Int) < ((l0.length : Int) : Int) := ad_
     have qi68 : (0 < l0.length) = True := eq_true (by omega)
     obtain ⟨hx68_0, hf68_0⟩ := Kd.R_celln 0 HO_0.out (0 : Int) p68 q68
     rw [show ((0 : Int)).toNat = 0 from rfl] at hx68_0
     rw [show ((0 : Int)).toNat = 0 from rfl] at hf68_0
     replace p68 := eq_true p68
     replace q68 := eq_true q68
     have qa144 : ((7 : Int) < (8 : Int)) = True := qa_ l0 8
     have p144 : 0 ≤ (7 : Int) := (by omega)
     have q144 : 7 < (l0.length : Int) := ad_
     obtain ⟨ad144, e144, hx144_0⟩ := Kd.at_int (Kd.R_reads' HO_0.out).2.2 7 p144 q144
     obtain rfl : (⟨go55, 0, none⟩ : Addr) = ad144 := (by injection e144)
     (first | simp only [add_plain] at hx144_0 | simp only [add_at] at hx144_0 | simp only [Addr.add, Nat.zero_add] at hx144_0 | skip)
     have qi144 : (7 < l0.length) = True := eq_true (by omega)
     rw [show ((7 : Int)).toNat = 7 from rfl] at hx144_0
     replace p144 := eq_true p144
     replace q144 := eq_true q144
     refine sK_ 40 (fun w' => w'.cell? ⟨go55, 0, none⟩ = some (.int .u32 (rd l0 0)) ∧ w'.cell? ⟨go55, 1, none⟩ = some (.int .u32 (rd l0 1)) ∧ w'.cell? ⟨go55, 2, none⟩ = some (.int .u32 (rd l0 2)) ∧ w'.cell? ⟨go55, 3, none⟩ = some (.int .u32 (rd l0 3)) ∧ w'.cell? ⟨go55, 4, none⟩ = some (.int .u32 (rd l0 4)) ∧ w'.cell? ⟨go55, 5, none⟩ = some (.int .u32 (rd l0 5)) ∧ w'.cell? ⟨go55, 6, none⟩ = some (.int .u32 (rd l0 6)) ∧ w'.cell? ⟨go55, 7, none⟩ = some (.int .u32 (rd l0 7))) [] Jb.tab11 Jb.bits11 ⟨hx137_0, hx138_0, hx139_0, hx140_0, hx141_0, hx142_0, hx143_0, hx144_0⟩ fun hHeld HT_ HW_ => ?_
     generalize wr.drew = w70 at HO_0 HO_4 HK HB GG55 hf55_0 hf56_0 hf58_0 hf60_0 hf62_0 hf64_0 hf66_0 hf68_0 hx137_0 hx138_0 hx139_0 hx140_0 hx141_0 hx142_0 hx143_0 hx144_0 hx55_0 hx56_0 hx58_0 hx60_0 hx62_0 hx64_0 hx66_0 hx68_0 hHeld ⊢
     refine runs_ [(0, some 98), (1, some 99), (2, some 100), (4, some 102), (5, some 103), (6, some 104), (8, some 106), (9, some 107), (10, some 108), (12, some 110), (13, some 111), (14, some 112), (16, some 114), (17, some 115), (18, some 116), (20, some 118), (21, some 119), (22, some 120), (24, some 122), (25, some 123), (26, some 124), (28, some 126), (29, some 127), (30, some 128), (3, some 101), (32, some 9), (7, some 105), (33, some 10), (11, some 109), (34, some 11), (15, some 113), (35, some 12), (19, some 117), (36, some 13), (23, some 121), (37, some 14), (27, some 125), (38, some 15), (31, some 129), (39, some 16)] ?_
     (iterate 24 (refine pL_ ?_)); (iterate 8 (refine tL_ ?_; refine pL_ ?_)); refine runsE_ ?_
     refine dK_ ?_
     try go_wp2
     go_loopg [9, 10, 11, 12, 13, 14, 15, 16, 130] k2 (fun kq v9 v10 v11 v12 v13 v14 v15 v16 v130 w' => ∃ (x9_3 : Int) (x10_3 : Int) (x11_3 : Int) (x12_3 : Int) (x13_3 : Int) (x14_3 : Int) (x15_3 : Int) (x16_3 : Int) (x130_3 : Int), v9 = .int .u32 x9_3 ∧ v10 = .int .u32 x10_3 ∧ v11 = .int .u32 x11_3 ∧ v12 = .int .u32 x12_3 ∧ v13 = .int .u32 x13_3 ∧ v14 = .int .u32 x14_3 ∧ v15 = .int .u32 x15_3 ∧ v16 = .int .u32 x16_3 ∧ v130 = .int .i64 x130_3 ∧ Aside0 (Jb.l2 kq l0 x4_2 x9_3 x10_3 x11_3 x12_3 x13_3 x14_3 x15_3 x16_3 x130_3 = some r) ∧ Aside0 (kq ≤ k2) ∧ Aside0 (Kd.R (Kd.int .u32) 136 w' w0.heap.size (fun k_ => (P0_ k_ ∨ w.heap.size ≤ k_)) (.slice (some ⟨go55, 0, none⟩) l0.length co55) l0) ∧ Aside0 (Kd.R (Kd.int .u32) 132 w' w0.heap.size (fun k_ => (P0_ k_ ∨ w.heap.size ≤ k_)) v125 x4_2) ∧ Aside0 (Kept w w' (fun k_ => P0_ k_)) ∧ Aside0 (Below w0.heap.size w0 w'))
     case atStart => exact ⟨(rd l0 0), (rd l0 1), (rd l0 2), (rd l0 3), (rd l0 4), (rd l0 5), (rd l0 6), (rd l0 7), (0), vq_, vq_, vq_, vq_, vq_, vq_, vq_, vq_, vq_, H', ⟨Nat.le_refl _⟩, ⟨mv_ HO_0.out⟩, ⟨mv_ HO_4.out⟩, ⟨by repeat (first | (with_reducible first | exact HK.out | apply Kept.alloc | apply Kept.drewN | apply Kept.drew) | exact HK.out)⟩, ⟨bl_⟩⟩
     case round =>
      clear H'
      clear c28b0 c53b0 c53b1 c54b0 c54b1 p55 q55 qi55 p56 q56 qi56 c57b0 c57b1 p58 q58 qi58 c59b0 c59b1 p60 q60 qi60 c61b0 c61b1 p62 q62 qi62 c63b0 c63b1 p64 q64 qi64 c65b0 c65b1 p66 q66 qi66 c67b0 c67b1 p68 q68 qi68 c69b0 c69b1 hx137_0 hx138_0 hx139_0 hx140_0 hx141_0 hx142_0 hx143_0 hx144_0 hx55_0 hx56_0 hx58_0 hx60_0 hx62_0 hx64_0 hx66_0 hx68_0 p137 p138 p139 p140 p141 p142 p143 p144 q137 q138 q139 q140 q141 q142 q143 q144
      obtain ⟨x9_3, x10_3, x11_3, x12_3, x13_3, x14_3, x15_3, x16_3, x130_3, rfl, rfl, rfl, rfl, rfl, rfl, rfl, rfl, rfl, HA, HK3, HO_0, HO_4, HK, HB⟩ := hrel
      cases gk with
      | zero => exact absurd HA.out (by simp [Jb.l2])
      | succ k3 =>
       have H := HA.out
       clear HA
       simp only [Jb.l2] at H
       by_cases c71 : x130_3 < 64
       ·rw [if_pos c71] at H
        have c71b0 : decide (x130_3 < 64) = true := decide_eq_true c71
        clear c71
        revert H; refine oa_ fun t145 A72 => oa_ fun t146 A73 => oa_ fun t147 A74 => ne_ fun c75 c75b0 c75b1 => nd_ fun c76 c76b0 => nd_ fun c77 c77b0 => ne_ fun c78 c78b0 c78b1 => nd_ fun c79 c79b0 => oa_ fun t150 A80 => oa_ fun t151 A81 => oa_ fun t152 A82 H => ?_
        clear c75 c76 c77 c78 c79
        have H' := Aside0.mk H
        clear H
        try go_wp2
        replace HB := Aside0.mk (below_drew1 HB.out)
        replace HK := Aside0.mk (Kept.drew HK.out)
        replace HO_4 := Aside0.mk (Kd.R_drew HO_4.out)
        replace HO_0 := Aside0.mk (Kd.R_drew HO_0.out)
        have qa148 : ((x130_3 : Int) < (64 : Int)) = True := qa_ keysL 64
        have p148 : 0 ≤ (x130_3 : Int) := ad_
        have q148 : x130_3 < (keysL.length : Int) := ad_
        obtain ⟨ad148, e148, hx148_0⟩ := Kd.at_int (Kd.C_kept_now HRG.out HK.out) x130_3 p148 q148
        have hw148_0 := hx148_0
        obtain rfl : (⟨0, 0, none⟩ : Addr) = ad148 := (by injection e148)
        (first | simp only [add_plain] at hx148_0 | simp only [add_at] at hx148_0 | simp only [Addr.add, Nat.zero_add] at hx148_0 | skip)
        replace p148 := eq_true p148
        replace q148 := eq_true q148
        obtain ⟨Ao84, co84, eo84⟩ := Kd.R_slice HO_4.out
        (first | subst eo84 | (injection eo84 with f1_ f2_ f3_; have f4_ := f1_.symm; have f5_ := f3_.symm; clear f1_ f2_ f3_; subst f4_; subst f5_))
        have qa149 : ((x130_3 : Int) < (64 : Int)) = True := qa_ x4_2 64
        have p149 : 0 ≤ (x130_3 : Int) := ad_
        have q149 : x130_3 < (x4_2.length : Int) := ad_
        obtain ⟨ad149, e149, hx149_0⟩ := Kd.at_int (Kd.R_reads' HO_4.out).2.2 x130_3 p149 q149
        cases e149
        replace p149 := eq_true p149
        replace q149 := eq_true q149
        refine sK_ 28 (fun w' => w'.cell? ⟨0, (x130_3).toNat, none⟩ = some (.int .u32 (rd keysL x130_3)) ∧ w'.cell? (ad149.add (x130_3).toNat) = some (.int .u32 (rd x4_2 x130_3))) [] Jb.tab15 Jb.bits15 ⟨(by have h_ := Kd.foot_int (HRG.out _ (by repeat (first | exact HK.out | apply Kept.alloc | apply Kept.drewN | apply Kept.drew))) x130_3 (of_eq_true p148) (of_eq_true q148); (first | simp only [add_plain] at h_ | skip); exact h_), hx149_0⟩ fun hHeld HT_ HW_ => ?_
        generalize wr.drew = w83 at HO_0 HO_4 HK HB hx148_0 hx149_0 hHeld ⊢
        refine runs_ [(0, some 133), (1, some 134), (3, some 136), (6, some 139), (10, some 143), (11, some 144), (12, some 145), (13, some 146), (14, some 147), (15, some 148), (16, some 149), (17, some 150), (19, some 152), (20, some 153), (23, some 156), (24, some 157), (21, some 154), (25, some 158)] ?_
        (iterate 16 (refine pL_ ?_)); (iterate 2 (refine tL_ ?_)); refine runsE_ ?_
        refine oK_ 2 (some 135) fun K hK => ?_
        refine goes_ Tryz.func107 (by kernel_rfl) rfl #[.int .u32 x13_3, .int .i64 (-6)] (by rfl) rfl rfl gm1_ ?_
        with_reducible refine (Ju.calls x13_3 (-6) t145 _ A72.out).mono ?_
        rintro e w' ⟨rfl, ⟨nd, rfl⟩⟩
        refine ⟨_, rfl, ?_⟩
        refine hK.out _ _ ⟨(by have h_ := Kd.foot_int (HRG.out _ (by repeat (first | exact HK.out | apply Kept.alloc | apply Kept.drewN | apply Kept.drew))) x130_3 (of_eq_true p148) (of_eq_true q148); (first | simp only [add_plain] at h_ | skip); exact h_), hHeld.2⟩ (fun hHeld => ?_)
        clear hK K
        refine nK_ (some 135) ?_
        refine oK_ 4 (some 137) fun K hK => ?_
        refine goes_ Tryz.func107 (by kernel_rfl) rfl #[.int .u32 x13_3, .int .i64 (-11)] (by rfl) rfl rfl gm1_ ?_
        with_reducible refine (Ju.calls x13_3 (-11) t146 _ A73.out).mono ?_
        rintro e w' ⟨rfl, ⟨nd, rfl⟩⟩
        refine ⟨_, rfl, ?_⟩
        refine hK.out _ _ ⟨(by have h_ := Kd.foot_int (HRG.out _ (by repeat (first | exact HK.out | apply Kept.alloc | apply Kept.drewN | apply Kept.drew))) x130_3 (of_eq_true p148) (of_eq_true q148); (first | simp only [add_plain] at h_ | skip); exact h_), hHeld.2⟩ (fun hHeld => ?_)
        clear hK K
        refine nK_ (some 137) ?_
        refine pK_ 5 138 ?_
        refine oK_ 7 (some 140) fun K hK => ?_
        refine goes_ Tryz.func107 (by kernel_rfl) rfl #[.int .u32 x13_3, .int .i64 (-25)] (by rfl) rfl rfl gm1_ ?_
        with_reducible refine (Ju.calls x13_3 (-25) t147 _ A74.out).mono ?_
        rintro e w' ⟨rfl, ⟨nd, rfl⟩⟩
        refine ⟨_, rfl, ?_⟩
        refine hK.out _ _ ⟨(by have h_ := Kd.foot_int (HRG.out _ (by repeat (first | exact HK.out | apply Kept.alloc | apply Kept.drewN | apply Kept.drew))) x130_3 (of_eq_true p148) (of_eq_true q148); (first | simp only [add_plain] at h_ | skip); exact h_), hHeld.2⟩ (fun hHeld => ?_)
        clear hK K
        refine nK_ (some 140) ?_
        refine runs_ [(8, some 141), (9, some 142), (18, some 151), (22, some 155), (26, some 159), (27, some 18)] ?_
        (iterate 6 (refine pL_ ?_)); refine runsE_ ?_
        refine dK_ ?_
        try go_wp2_with (first | ((with_reducible refine gate_callee (f := 107) rfl ?_); refine gL_ 161 Tryz.func107 #[.int .u32 x9_3, .int .i64 (-2)] ?_; (with_reducible refine (Ju.calls x9_3 (-2) t150 _ A80.out).mono ?_); rintro e w' ⟨rfl, ⟨nd, rfl⟩⟩; refine ⟨_, rfl, ?_⟩) | ((with_reducible refine gate_callee (f := 107) rfl ?_); refine gL_ 163 Tryz.func107 #[.int .u32 x9_3, .int .i64 (-13)] ?_; (with_reducible refine (Ju.calls x9_3 (-13) t151 _ A81.out).mono ?_); rintro e w' ⟨rfl, ⟨nd, rfl⟩⟩; refine ⟨_, rfl, ?_⟩) | ((with_reducible refine gate_callee (f := 107) rfl ?_); refine gL_ 166 Tryz.func107 #[.int .u32 x9_3, .int .i64 (-22)] ?_; (with_reducible refine (Ju.calls x9_3 (-22) t152 _ A82.out).mono ?_); rintro e w' ⟨rfl, ⟨nd, rfl⟩⟩; refine ⟨_, rfl, ?_⟩))
        go_roundg k3
        case measure => have := HK1.out; have := HK2.out; have := HK3.out; omega
        case rel => exact ⟨((((((x16_3 + (Go.bits .xor .u32 (Go.bits .xor .u32 t145 t146) t147)) + (Go.bits .xor .u32 (Go.bits .and .u32 x13_3 x14_3) (Go.bits .and .u32 (Go.bits .xor .u32 4294967295 x13_3) x15_3))) + (rd keysL x130_3)) + (rd x4_2 x130_3)) + ((Go.bits .xor .u32 (Go.bits .xor .u32 t150 t151) t152) + (Go.bits .xor .u32 (Go.bits .xor .u32 (Go.bits .and .u32 x9_3 x10_3) (Go.bits .and .u32 x9_3 x11_3)) (Go.bits .and .u32 x10_3 x11_3)))) % 4294967296), (x9_3), (x10_3), (x11_3), ((x12_3 + ((((x16_3 + (Go.bits .xor .u32 (Go.bits .xor .u32 t145 t146) t147)) + (Go.bits .xor .u32 (Go.bits .and .u32 x13_3 x14_3) (Go.bits .and .u32 (Go.bits .xor .u32 4294967295 x13_3) x15_3))) + (rd keysL x130_3)) + (rd x4_2 x130_3))) % 4294967296), (x13_3), (x14_3), (x15_3), (wrap64 (x130_3 + 1)), vq_, vq_, vq_, vq_, vq_, vq_, vq_, vq_, vq_, H', ⟨by have := HK1.out; have := HK2.out; have := HK3.out; omega⟩, ⟨mv_ HO_0.out⟩, ⟨mv_ HO_4.out⟩, ⟨by repeat (first | (with_reducible first | exact HK.out | apply Kept.alloc | apply Kept.drewN | apply Kept.drew) | exact HK.out)⟩, ⟨bl_⟩⟩
       rw [if_neg c71] at H
       have c71b0 : decide (x130_3 < 64) = false := decide_eq_false c71
       clear c71
       have H' := Aside0.mk H
       clear H
       go_wp2
       go_loopg [202] k3 (fun kq v202 w' => ∃ (x0_4 : List Int) (x202_4 : Int), v202 = .int .i64 x202_4 ∧ Aside0 (Jb.l3 kq x0_4 x9_3 x10_3 x11_3 x12_3 x13_3 x14_3 x15_3 x16_3 x202_4 = some r) ∧ Aside0 (kq ≤ k3) ∧ Aside0 (Kd.R (Kd.int .u32) 136 w' w0.heap.size (fun k_ => (P0_ k_ ∨ w.heap.size ≤ k_)) (.slice (some ⟨go55, 0, none⟩) l0.length co55) x0_4) ∧ Aside0 (Kept w w' (fun k_ => P0_ k_)) ∧ Aside0 (Below w0.heap.size w0 w'))
       case atStart => exact ⟨(l0), (0), vq_, H', ⟨Nat.le_refl _⟩, ⟨mv_ HO_0.out⟩, ⟨by repeat (first | (with_reducible first | exact HK.out | apply Kept.alloc | apply Kept.drewN | apply Kept.drew) | exact HK.out)⟩, ⟨bl_⟩⟩
       case round =>
        clear H'
        clear c71b0
        obtain ⟨x0_4, x202_4, rfl, HA, HK4, HO_0, HK, HB⟩ := hrel
        have hl0_4 := (Kd.R_reads' HO_0.out).1
        rw [hl0_4] at HO_0
        simp only [hl0_4]
        cases gk with
        | zero => exact absurd HA.out (by simp [Jb.l3])
        | succ k4 =>
         have H := HA.out
         clear HA
         simp only [Jb.l3] at H
         by_cases c85 : x202_4 < 8
         ·rw [if_pos c85] at H
          have c85b0 : decide (x202_4 < 8) = true := decide_eq_true c85
          clear c85
          revert H; refine nd_ fun c86 c86b0 => ne_ fun c87 c87b0 c87b1 => nd_ fun c88 c88b0 => nd_ fun c90 c90b0 H => ?_
          have c88b1 : decide (0 < x0_4.length) = true := decide_eq_true (by omega)
          clear c86 c87 c88 c90
          generalize e_ : (x0_4.set (x202_4 : Int).toNat (((rd x0_4 x202_4) + (rd [x9_3, x10_3, x11_3, x12_3, x13_3, x14_3, x15_3, x16_3] x202_4)) % 4294967296) : List Int) = y154 at H
          have Ny154 := Aside0.mk e_.symm
          clear e_
          have H' := Aside0.mk H
          clear H
          have p93 : 0 ≤ (x202_4 : Int) := ad_
          have q93 : (x202_4 : Int) < (8 : Int) := ad_
          try go_wp2_with (first | ((with_reducible refine gate_dst (N := 205) rfl ?_); ((refine gate_guard (by rfl) ?_; dsimp only)); refine aidx_event (P := Tryz.prog) (k := .u32) (n := 8) rfl (N := 205) rfl 130 52 _ _ rfl [x9_3, x10_3, x11_3, x12_3, x13_3, x14_3, x15_3, x16_3] rfl x202_4 rfl Tryz.underlying130 rfl (by go_simp) (by go_simp) p93 q93 ?_))
          replace HB := Aside0.mk (below_drew1 HB.out)
          replace HK := Aside0.mk (Kept.drew HK.out)
          replace HO_0 := Aside0.mk (Kd.R_drew HO_0.out)
          have qa89 : ((0 : Int) < (8 : Int)) = True := qa_ x0_4 8
          have p89 : 0 ≤ (0 : Int) := (by omega)
          have q89 : (0 : Int) < ((x0_4.length : Int) : Int) := ad_
          have qi89 : (0 < x0_4.length) = True := eq_true (by omega)
          obtain ⟨hx89_0, hf89_0⟩ := Kd.R_celln 0 HO_0.out (0 : Int) p89 q89
          rw [show ((0 : Int)).toNat = 0 from rfl] at hx89_0
          rw [show ((0 : Int)).toNat = 0 from rfl] at hf89_0
          replace p89 := eq_true p89
          replace q89 := eq_true q89
          have qa153 : ((x202_4 : Int) < (8 : Int)) = True := qa_ x0_4 8
          have p153 : 0 ≤ (x202_4 : Int) := ad_
          have q153 : x202_4 < (x0_4.length : Int) := ad_
          obtain ⟨ad153, e153, hx153_0⟩ := Kd.at_int (Kd.R_reads' HO_0.out).2.2 x202_4 p153 q153
          obtain rfl : (⟨go55, 0, none⟩ : Addr) = ad153 := (by injection e153)
          (first | simp only [add_plain] at hx153_0 | simp only [add_at] at hx153_0 | simp only [Addr.add, Nat.zero_add] at hx153_0 | skip)
          replace p153 := eq_true p153
          replace q153 := eq_true q153
          have qa91 : ((0 : Int) < (8 : Int)) = True := qa_ x0_4 8
          have p91 : 0 ≤ (0 : Int) := (by omega)
          have q91 : (0 : Int) < ((x0_4.length : Int) : Int) := ad_
          have qi91 : (0 < x0_4.length) = True := eq_true (by omega)
          obtain ⟨hx91_0, hf91_0⟩ := Kd.R_celln 0 HO_0.out (0 : Int) p91 q91
          rw [show ((0 : Int)).toNat = 0 from rfl] at hx91_0
          rw [show ((0 : Int)).toNat = 0 from rfl] at hf91_0
          replace p91 := eq_true p91
          replace q91 := eq_true q91
          have qa92 : ((x202_4 : Int) < (8 : Int)) = True := qa_ x0_4 8
          have p92 : 0 ≤ (x202_4 : Int) := ad_
          have q92 : (x202_4 : Int) < ((x0_4.length : Int) : Int) := ad_
          obtain ⟨hx92_0, hf92_0⟩ := Kd.R_celln 0 HO_0.out (x202_4 : Int) p92 q92
          replace p92 := eq_true p92
          replace q92 := eq_true q92
          have HP95 := Kd.R_putn HO_0.out (x202_4 : Int) (((rd x0_4 x202_4) + (rd [x9_3, x10_3, x11_3, x12_3, x13_3, x14_3, x15_3, x16_3] x202_4)) % 4294967296)
          rw [← Ny154.out] at HP95
          have HQ95 := Aside0.mk HP95
          clear HP95
          refine sK_ 10 (fun w' => w'.cell? ⟨go55, (x202_4).toNat, none⟩ = some (.int .u32 (rd x0_4 x202_4))) [9] Jb.tab22 Jb.bits22 (hx153_0) fun hHeld HT_ HW_ => ?_
          generalize wr.drew = w94 at HO_0 HK HB HQ95 hf89_0 hf91_0 hf92_0 hx153_0 hx89_0 hx91_0 hx92_0 hHeld ⊢
          refine runs_ [(0, some 206), (1, some 207), (2, some 208), (3, some 209), (5, some 211), (7, some 213), (4, some 210), (6, some 212), (8, some 214)] ?_
          (iterate 6 (refine pL_ ?_)); refine tL_ ?_; (iterate 2 (refine pL_ ?_)); refine runsE_ ?_
          refine lK_ 9 none fun K hK => ?_
          refine skip_set ⟨go55, (x202_4 : Int).toNat, none⟩ (.int .u32 (((rd x0_4 x202_4) + (rd [x9_3, x10_3, x11_3, x12_3, x13_3, x14_3, x15_3, x16_3] x202_4)) % 4294967296)) (by rfl) rfl ?_ ?_
          ·first | (go_simp; done) | (go_simp; rfl) | (go_simp; (try simp only [IntKind.wrap_u32, IntKind.wrap_u8]); refine congrArg (fun v_ => World.setCell _ _ (Value.int _ v_)) ?_; omega)
          refine hK.out _ _ ?_
          clear hK K
          refine dK_ ?_
          try go_wp2
          simp only [← hl0_4]
          go_roundg k4
          case measure => have := HK1.out; have := HK2.out; have := HK3.out; have := HK4.out; omega
          case rel => exact ⟨(y154), (wrap64 (x202_4 + 1)), vq_, H', ⟨by have := HK1.out; have := HK2.out; have := HK3.out; have := HK4.out; omega⟩, ⟨by (simp only [hl0_4]); refine mv_ ?_; exact HQ95.out⟩, ⟨by repeat (first | (with_reducible first | exact HK.out | apply Kept.alloc | apply Kept.drewN | apply Kept.drew | refine Kept.setCell ?_ HMgo55.out _) | exact HK.out)⟩, ⟨bs_ GB55.out⟩⟩
         rw [if_neg c85] at H
         have c85b0 : decide (x202_4 < 8) = false := decide_eq_false c85
         clear c85
         obtain rfl := Option.some.inj H
         go_wp2
         first | go_end0 | ((try simp only [Exit.inBlock, Exit.then]); refine bodyPost_ret (results_none rfl _ _ _) rfl ?_)
         exact ⟨er_, (by first | exact (mv_ HO_0.out) | (simp only [hl0_4]; exact (mv_ HO_0.out))), bl_, by repeat (first | (with_reducible first | exact HK.out | apply Kept.alloc | apply Kept.drewN | apply Kept.drew) | exact HK.out)⟩

/-! ### Jx = sha_Sum: function 72 -/
mutual
def Jx.l0 : Nat → ByteArray → List Int → Int → Option (ByteArray)
 | 0, _, _, _ => none
 | k + 1, x0, x3, x4 => if (x0.size : Int) ≥ 64 then (if 0 ≤ 64 then (if 64 ≤ (x0.size : Int) then ((Jb.f k x3 (x0.extract 0 64)).bind fun t159 => (Jx.l0 k (x0.extract 64 x0.size) t159 x4)) else (none)) else (none)) else ((some (List.replicate 128 0 : List Int)).bind fun y160 => (if y160.length = 128 then (if 0 < (y160.length : Int) then (if x0.size ≤ y160.length then ((some (bytesOf x0 ++ y160.drop x0.size : List Int)).bind fun y163 => (if (x0.size : Int) ≥ 56 then (Jx.j1 k x0 x3 x4 y163 128) else (Jx.j1 k x0 x3 x4 y163 64))) else (none)) else (none)) else (none)))
def Jx.j1 : Nat → ByteArray → List Int → Int → List Int → Int → Option (ByteArray)
 | 0, _, _, _, _, _ => none
 | k + 1, x0, x3, x4, x5, x6 => if x5.length = 128 then (if 0 ≤ (x0.size : Int) then (if (x0.size : Int) < (x5.length : Int) then (Jx.l1 k x3 x4 (x5.set ((x0.size : Int) : Int).toNat 128) x6 0) else (none)) else (none)) else (none)
def Jx.l1 : Nat → List Int → Int → List Int → Int → Int → Option (ByteArray)
 | 0, _, _, _, _, _ => none
 | k + 1, x3, x4, x5, x6, x31 => if x31 < 8 then (if 0 ≤ (wrap64 (8 * x31)) then (if x5.length = 128 then (if 0 ≤ (wrap64 ((wrap64 (x6 - 1)) - x31)) then (if (wrap64 ((wrap64 (x6 - 1)) - x31)) < (x5.length : Int) then (Jx.l1 k x3 x4 (x5.set ((wrap64 ((wrap64 (x6 - 1)) - x31)) : Int).toNat ((shr .u64 x4 (wrap64 (8 * x31))) % 256)) x6 (wrap64 (x31 + 1))) else (none)) else (none)) else (none)) else (none)) else (if x5.length = 128 then (if 0 ≤ x6 then (if x6 ≤ 128 then (if 0 < (x5.length : Int) then (Jx.l2 k x3 (strOfNums (x5.take (x6 : Int).toNat))) else (none)) else (none)) else (none)) else (none))
def Jx.l2 : Nat → List Int → ByteArray → Option (ByteArray)
 | 0, _, _ => none
 | k + 1, x3, x8 => if x8.toList = ([] : List UInt8) then (Jx.l3 k x3 (List.replicate 32 0) 0) else (if 0 ≤ 64 then (if 64 ≤ (x8.size : Int) then ((Jb.f k x3 (x8.extract 0 64)).bind fun t166 => (Jx.l2 k t166 (x8.extract 64 x8.size))) else (none)) else (none))
def Jx.l3 : Nat → List Int → List Int → Int → Option (ByteArray)
 | 0, _, _, _ => none
 | k + 1, x3, x9, x55 => if x55 < 32 then (if x3.length = 8 then (if 0 ≤ (wrap64 (Int.tdiv x55 4)) then (if (wrap64 (Int.tdiv x55 4)) < (x3.length : Int) then (if 0 ≤ (wrap64 (24 - (wrap64 (8 * (Int.tmod x55 4))))) then (if x9.length = 32 then (if 0 ≤ x55 then (if x55 < (x9.length : Int) then (Jx.l3 k x3 (x9.set (x55 : Int).toNat ((shr .u32 (rd x3 (wrap64 (Int.tdiv x55 4))) (wrap64 (24 - (wrap64 (8 * (Int.tmod x55 4)))))) % 256)) (wrap64 (x55 + 1))) else (none)) else (none)) else (none)) else (none)) else (none)) else (none)) else (none)) else (if x9.length = 32 then (if 0 < (x9.length : Int) then (some (strOfNums (x9.take 32))) else (none)) else (none))
end
def Jx.f (k : Nat) (a0 : ByteArray) : Option (ByteArray) := (U4.f).bind fun _ => ((some (List.replicate 8 0 : List Int)).bind fun y155 => (if y155.length = 8 then (if 0 < (y155.length : Int) then (Jx.l0 k a0 ([1779033703, 3144134277, 1013904242, 2773480762, 1359893119, 2600822924, 528734635, 1541459225]) (IntKind.u64.wrap ((IntKind.u64.wrap ((a0.size : Int))) * 8))) else (none)) else (none)))
set_option maxHeartbeats 64000000 in
set_option maxRecDepth 100000 in
theorem Jx.calls (k : Nat) (a0 : ByteArray) (r : ByteArray) (w : World) (hrG : Kd.C (Kd.int .u32) w (some ⟨0, 0, none⟩) keysL.length keysL) (h : Jx.f k a0 = some r) :
 Calls Tryz.prog 72 #[.string a0] w fun e w' => e = .returned (.string r) ∧ Below w.heap.size w w' := by
 have hu136 := Tryz.underlying136
 have hu140 := Tryz.underlying140
 have HRG := Aside0.mk hrG
 clear hrG
 have HB := Aside0.mk (Below.refl w.heap.size w)
 have H : ((U4.f).bind fun _ => ((some (List.replicate 8 0 : List Int)).bind fun y155 => (if y155.length = 8 then (if 0 < (y155.length : Int) then (Jx.l0 k a0 ([1779033703, 3144134277, 1013904242, 2773480762, 1359893119, 2600822924, 528734635, 1541459225]) (IntKind.u64.wrap ((IntKind.u64.wrap ((a0.size : Int))) * 8))) else (none)) else (none)))) = some r := h
 clear h
 revert H; refine oa_ fun _ A2 => oy_ fun y155 Ny155 => ne_ fun c3 c3b0 c3b1 => nd_ fun c4 c4b0 H => ?_
 have c4b1 : decide (0 < y155.length) = true := decide_eq_true (by omega)
 clear c3 c4
 generalize e_ : ([1779033703, 3144134277, 1013904242, 2773480762, 1359893119, 2600822924, 528734635, 1541459225] : List Int) = y158 at H
 have Ny158 := Aside0.mk e_.symm
 clear e_
 have H' := Aside0.mk H
 clear H
 go_enter Tryz.func72, Tryz.ntmps72
 go_wp2_with (first | ((with_reducible refine gate_callee (f := 96) rfl ?_); refine gL_ 11 Tryz.func96 #[] ?_; (with_reducible refine (U4.calls   _ A2.out).mono ?_); rintro e w6 ⟨rfl, hb⟩; refine ⟨_, rfl, ?_⟩; replace HB := Aside0.mk (below_step bl_ hb); clear hb) | ((with_reducible refine gate_dst (N := 3) rfl ?_); refine R_arr (Value.int .u32) (fun _ => rfl) _ 136 ?hg (N := 3) ?hd (List.replicate 8 0) ?hr (Below.refl _ _) (Nat.le_refl _) (by decide) ?_; (case hd => rfl); (case hg => rfl); (case hr => exact gr_); intro v156 w7 ho8 hb hg_ hnew_; clear hg_ hnew_; (first | rw [← Ny155.out] at ho8 | (simp only [Int.reduceToNat] at ho8; rw [← Ny155.out] at ho8)); have HO157 := Aside0.mk (Kd.R_lower ho8 (below_size bl_)); replace HB := Aside0.mk (below_step bl_ hb); clear hb ho8; have qa5 : ((0 : Int) < (8 : Int)) = True := eq_true (by have e_ : y155.length = 8 := ae_; have h_ : (0 : Int) < ((y155.length : Int) : Int) := ae_; omega); have p5 : 0 ≤ (0 : Int) := (by omega); have q5 : (0 : Int) < ((y155.length : Int) : Int) := ae_; have qi5 : (0 < y155.length) = True := eq_true (by omega); obtain ⟨go5, co5, eo5, gb5, gl5, cl5, HG5⟩ := Kd.R_form HO157.out (by omega); (first | cases eo5 | (injection eo5 with ea_ en_ ec_; (first | subst ea_ | (injection ea_ with ea_; subst ea_)); subst ec_; clear en_)); have GB5 := Aside0.mk gb5; have GG5 := Aside0.mk HG5; clear gb5 gl5 HG5; obtain ⟨hx5_0, hf5_0⟩ := Kd.R_celln 0 HO157.out (0 : Int) p5 q5; (rw [show ((0 : Int)).toNat = 0 from rfl] at hx5_0); (rw [show ((0 : Int)).toNat = 0 from rfl] at hf5_0); replace p5 := eq_true p5; replace q5 := eq_true q5; have HP9 := R_whole (ys := [1779033703, 3144134277, 1013904242, 2773480762, 1359893119, 2600822924, 528734635, 1541459225]) HO157.out (by have e_ : y155.length = 8 := ae_; have e2_ := (Kd.R_reads' HO157.out).1; first | (rw [e_]; rfl) | (simp only [List.length_cons, List.length_nil]; omega))) | ((with_reducible refine gate_store (t := 136) (p := 3) rfl ?_); refine store_event (t := 136) (p := 3) (v := ?vo_w10) (w1 := (w7.setCells go5 0 (encs (Value.int .u32) [1779033703, 3144134277, 1013904242, 2773480762, 1359893119, 2600822924, 528734635, 1541459225]))) ?hg ?ho ?hn ?hr ?_; (case ho => rfl); (case hg => rfl); (case hn => rfl); (case hr => exact whole_run (ys := [1779033703, 3144134277, 1013904242, 2773480762, 1359893119, 2600822924, 528734635, 1541459225]) rfl rfl rfl (by kernel_rfl) HO157.out (by have e_ : y155.length = 8 := ae_; have e2_ := (Kd.R_reads' HO157.out).1; first | (rw [e_]; rfl) | (simp only [List.length_cons, List.length_nil]; omega))); intro w10 hw; have hg : w7.grownBy w10 (some go5) := (by rw [hw]; exact HP9.2); have hp_ : Kd.R (Kd.int .u32) 136 w10 w.heap.size (fun _ => True) (.slice (some ⟨go5, 0, none⟩) y155.length co5) y158 := (by rw [hw, Ny158.out]; exact HP9.1); clear HP9; replace HB := Aside0.mk ((Below.grown HB.out hg (below_size HB.out) (fun k_ e_ => (Option.some.inj e_) ▸ GB5.out) : Below w.heap.size w w10)); replace HO157 := Aside0.mk (hp_); clear hg hw hp_))
 go_loopg [0] k (fun kq v0 w' => ∃ (x0_1 : ByteArray) (x3_1 : List Int), v0 = .string x0_1 ∧ Aside0 (Jx.l0 kq x0_1 x3_1 (IntKind.u64.wrap ((IntKind.u64.wrap ((a0.size : Int))) * 8)) = some r) ∧ Aside0 (kq ≤ k) ∧ Aside0 (Kd.R (Kd.int .u32) 136 w' w.heap.size (fun _ => True) (.slice (some ⟨go5, 0, none⟩) y155.length co5) x3_1) ∧ Aside0 (Below w.heap.size w w'))
 case atStart => exact ⟨(a0), (y158), vq_, H', ⟨Nat.le_refl _⟩, ⟨mv_ HO157.out⟩, ⟨bl_⟩⟩
 case round =>
  clear H'
  clear c3b0 c3b1 c4b0 c4b1 p5 q5 qi5 hx5_0
  obtain ⟨x0_1, x3_1, rfl, HA, HK1, HO_3, HB⟩ := hrel
  have hl3_1 := (Kd.R_reads' HO_3.out).1
  rw [hl3_1] at HO_3
  simp only [hl3_1]
  cases gk with
  | zero => exact absurd HA.out (by simp [Jx.l0])
  | succ k1 =>
   have H := HA.out
   clear HA
   simp only [Jx.l0] at H
   by_cases c11 : (x0_1.size : Int) ≥ 64
   ·rw [if_pos c11] at H
    have c11b0 : decide (64 ≤ (x0_1.size : Int)) = true := decide_eq_true c11
    have c11b1 : decide (64 ≤ x0_1.size) = true := decide_eq_true (by omega)
    clear c11
    revert H; refine ne_ fun c12 c12b0 c12b1 => ne_ fun c13 c13b0 c13b1 => oa_ fun t159 A14 H => ?_
    clear c12 c13
    have c15b0 := eq_true (ae_ : 64 ≤ (x0_1.size : Int))
    have H' := Aside0.mk H
    clear H
    go_wp2_with (first | ((with_reducible refine gate_callee (f := 97) rfl ?_); refine gL_ 21 Tryz.func97 #[.pointer (some ⟨go5, 0, none⟩), .string (x0_1.extract 0 64)] ?_; (with_reducible refine (Jb.calls k1 (fun k_ => some k_ = (.slice (some ⟨go5, 0, none⟩) x3_1.length co5 : Value).ownBlock) (.slice (some ⟨go5, 0, none⟩) x3_1.length co5) x3_1 (x0_1.extract 0 64) t159 w _ ?side1 ?side2 ?side3 A14.out).mono ?_); (case side1 => repeat (first | (with_reducible first | exact HB.out | apply lA_ | apply lN_ | apply lD_) | exact HB.out)); (case side2 => exact Kd.R_tight rfl HO_3.out); (case side3 => exact Kd.C_kept_came (Kd.heap_int .u32) HRG.out bl_ (fun k_ hs_ => (fun e_ => Kd.R_base HO_3.out k_ e_.symm) hs_)); rintro e w16 ⟨rfl, hy0, hb, hkp⟩; refine ⟨_, rfl, ?_⟩; replace HB := Aside0.mk (hb); replace HO_3 := Aside0.mk (Kd.R_reok rfl hy0 (fun k_ e_ => HO_3.out.1 k_ e_)); clear hb hkp hy0))
    simp only [← hl3_1]
    go_roundg k1
    case measure => have := HK1.out; omega
    case rel => exact ⟨(x0_1.extract 64 x0_1.size), (t159), vq_, H', ⟨by have := HK1.out; omega⟩, ⟨by (simp only [hl3_1]); refine mv_ ?_; exact HO_3.out⟩, ⟨bl_⟩⟩
   rw [if_neg c11] at H
   have c11b0 : decide (64 ≤ (x0_1.size : Int)) = false := decide_eq_false c11
   have c11b1 : decide (64 ≤ x0_1.size) = false := decide_eq_false (by omega)
   clear c11
   revert H; refine oy_ fun y160 Ny160 => ne_ fun c17 c17b0 c17b1 => nd_ fun c18 c18b0 => ne_ fun c20 c20b0 c20b1 => oy_ fun y163 Ny163 H => ?_
   have c18b1 : decide (0 < y160.length) = true := decide_eq_true (by omega)
   clear c17 c18 c20
   have HC22 := Aside0.mk H
   clear H
   go_upto_if 27 with (first | ((with_reducible refine gate_dst (N := 5) rfl ?_); refine R_arr (Value.int .u8) (fun _ => rfl) _ 139 ?hg (N := 5) ?hd (List.replicate 128 0) ?hr (Below.refl _ _) (Nat.le_refl _) (by decide) ?_; (case hd => rfl); (case hg => rfl); (case hr => exact gr_); intro v161 w23 ho24 hb hg_ hnew_; clear hg_ hnew_; (first | rw [← Ny160.out] at ho24 | (simp only [Int.reduceToNat] at ho24; rw [← Ny160.out] at ho24)); have HO162 := Aside0.mk (Kd.R_lower ho24 (below_size bl_)); replace HB := Aside0.mk (below_step bl_ hb); replace HO_3 := Aside0.mk (Kd.R_below (mv_ HO_3.out) hb); clear hb ho24; have qa19 : ((0 : Int) < (128 : Int)) = True := eq_true (by have e_ : y160.length = 128 := ae_; have h_ : (0 : Int) < ((y160.length : Int) : Int) := ae_; omega); have p19 : 0 ≤ (0 : Int) := (by omega); have q19 : (0 : Int) < ((y160.length : Int) : Int) := ae_; have qi19 : (0 < y160.length) = True := eq_true (by omega); obtain ⟨go19, co19, eo19, gb19, gl19, cl19, HG19⟩ := Kd.R_form HO162.out (by omega); (first | cases eo19 | (injection eo19 with ea_ en_ ec_; (first | subst ea_ | (injection ea_ with ea_; subst ea_)); subst ec_; clear en_)); have GB19 := Aside0.mk gb19; have GG19 := Aside0.mk HG19; clear gb19 gl19 HG19; obtain ⟨hx19_0, hf19_0⟩ := Kd.R_celln 0 HO162.out (0 : Int) p19 q19; (rw [show ((0 : Int)).toNat = 0 from rfl] at hx19_0); (rw [show ((0 : Int)).toNat = 0 from rfl] at hf19_0); replace p19 := eq_true p19; replace q19 := eq_true q19) | ((with_reducible refine gate_dst (N := 24) rfl ?_); refine aslice_event (P := Tryz.prog) rfl (N := 24) rfl 139 5 128 _ _ rfl rfl Tryz.underlying139 (by go_simp) ?_; have qa21 : ((0 : Int) < (128 : Int)) = True := eq_true (by have e_ : y160.length = 128 := ae_; have h_ : (0 : Int) < ((y160.length : Int) : Int) := ae_; omega); have p21 : 0 ≤ (0 : Int) := (by omega); have q21 : (0 : Int) < ((y160.length : Int) : Int) := ae_; have qi21 : (0 < y160.length) = True := eq_true (by omega); obtain ⟨hx21_0, hf21_0⟩ := Kd.R_celln 0 HO162.out (0 : Int) p21 q21; (rw [show ((0 : Int)).toNat = 0 from rfl] at hx21_0); (rw [show ((0 : Int)).toNat = 0 from rfl] at hf21_0); replace p21 := eq_true p21; replace q21 := eq_true q21) | ((with_reducible refine gate_dst (N := 26) rfl ?_); refine acopy_event (P := Tryz.prog) rfl (N := 26) rfl 68 9 5 _ _ rfl Tryz.underlying68 (by kernel_rfl) rfl x0_1 rfl HO162.out (by have e_ : y160.length = 128 := ae_; have e2_ := (Kd.R_reads' HO162.out).1; omega) (ae_) ?_; intro w27 hp_ hg; have hw := trivial; rw [← Ny163.out] at hp_; replace HB := Aside0.mk ((Below.grown HB.out hg (below_size HB.out) (fun k_ e_ => (Option.some.inj e_) ▸ GB19.out) : Below w.heap.size w w27)); replace HO_3 := Aside0.mk (Kd.R_over' (v := (.slice (some ⟨go19, 0, none⟩) y160.length co19)) (mv_ HO_3.out) (Kd.R_typed HO162.out) (by decide) hg); replace HO162 := Aside0.mk (hp_); clear hg hw hp_))
   go_cut [6] (fun v6 wc => ∃ (kq : Nat) (x6_21 : Int), v6 = .int .i64 x6_21 ∧ Aside0 (Jx.j1 kq x0_1 x3_1 (IntKind.u64.wrap ((IntKind.u64.wrap ((a0.size : Int))) * 8)) y163 x6_21 = some r) ∧ Aside0 (kq ≤ k1) ∧ Aside0 (Kd.R (Kd.int .u32) 136 wc w.heap.size (fun _ => True) (.slice (some ⟨go5, 0, none⟩) x3_1.length co5) x3_1) ∧ Aside0 (Kd.R (Kd.int .u8) 139 wc w.heap.size (fun _ => True) (.slice (some ⟨go19, 0, none⟩) y160.length co19) y163) ∧ Aside0 (Below w.heap.size w wc))
   case first =>
    have H := HC22.out
    clear HC22
    by_cases c28 : (x0_1.size : Int) ≥ 56
    ·rw [if_pos c28] at H
     have c28b0 : decide (56 ≤ (x0_1.size : Int)) = true := decide_eq_true c28
     have c28b1 : decide (56 ≤ x0_1.size) = true := decide_eq_true (by omega)
     clear c28
     (first | rw [c28b0] | (simp only [i64_w, i32_w]; rw [c28b0]) | skip)
     have H' := Aside0.mk H
     clear H
     go_wp2
     go_meet
     case rel => exact ⟨_, (128), vq_, H', ⟨by have := HK1.out; first | omega | exact Nat.le_refl _⟩, ⟨by refine mv_ ?_; exact HO_3.out⟩, ⟨by refine mv_ ?_; exact HO162.out⟩, ⟨bl_⟩⟩
    rw [if_neg c28] at H
    have c28b0 : decide (56 ≤ (x0_1.size : Int)) = false := decide_eq_false c28
    have c28b1 : decide (56 ≤ x0_1.size) = false := decide_eq_false (by omega)
    clear c28
    (first | rw [c28b0] | (simp only [i64_w, i32_w]; rw [c28b0]) | skip)
    have H' := Aside0.mk H
    clear H
    go_wp2
    go_meet
    case rel => exact ⟨_, (64), vq_, H', ⟨by have := HK1.out; first | omega | exact Nat.le_refl _⟩, ⟨by refine mv_ ?_; exact HO_3.out⟩, ⟨by refine mv_ ?_; exact HO162.out⟩, ⟨bl_⟩⟩
   case rest =>
    clear HC22
    clear c11b0 c11b1 c17b0 c17b1 c18b0 c18b1 p19 q19 qi19 c20b0 c20b1 p21 q21 qi21 hx19_0 hx21_0
    obtain ⟨kq, x6_21, rfl, HA, HJ21, HO_3, HO_5, HB⟩ := hcut
    have hl5_21 := (Kd.R_reads' HO_5.out).1
    rw [hl5_21] at HO_5
    simp only [hl5_21]
    cases kq with
    | zero => exact absurd HA.out (by simp [Jx.j1])
    | succ kj21 =>
     have H := HA.out
     clear HA
     simp only [Jx.j1] at H
     revert H; refine ne_ fun c29 c29b0 c29b1 => nd_ fun c30 c30b0 => nd_ fun c31 c31b0 H => ?_
     have c30b1 : decide (0 ≤ x0_1.size) = true := decide_eq_true (by omega)
     have c31b1 : decide (x0_1.size < y163.length) = true := decide_eq_true (Int.ofNat_lt.mp c31)
     clear c29 c30 c31
     generalize e_ : (y163.set ((x0_1.size : Int) : Int).toNat 128 : List Int) = y164 at H
     have Ny164 := Aside0.mk e_.symm
     clear e_
     have H' := Aside0.mk H
     clear H
     have qa32 : (((x0_1.size : Int) : Int) < (128 : Int)) = True := eq_true (by have e_ : y163.length = 128 := ae_; have h_ : ((x0_1.size : Int) : Int) < ((y163.length : Int) : Int) := ae_; omega)
     have p32 : 0 ≤ ((x0_1.size : Int) : Int) := ae_
     have q32 : ((x0_1.size : Int) : Int) < ((y163.length : Int) : Int) := ae_
     obtain ⟨hx32_0, hf32_0⟩ := Kd.R_celln 0 HO_5.out ((x0_1.size : Int) : Int) p32 q32
     simp only [Int.toNat_natCast] at hx32_0 hf32_0
     replace p32 := eq_true p32
     replace q32 := eq_true q32
     have HP33 := Kd.R_putg HO_5.out ((x0_1.size : Int) : Int) 128
     go_wp2_with (first | ((with_reducible refine gate_store (t := 5) (p := 30) rfl ?_); refine store_event (t := 5) (p := 30) (v := ?vo_w34) (w1 := (wc.setCell ⟨go19, ((x0_1.size : Int) : Int).toNat, none⟩ (.int .u8 128))) ?hg ?ho ?hn ?hr ?_; (case ho => rfl); (case hg => rfl); (case hn => rfl); (case hr => exact gr_); intro w34 hw; have hg : wc.grownBy w34 (some go19) := (by rw [hw]; exact HP33.2); have hp_ : Kd.R (Kd.int .u8) 139 w34 w.heap.size (fun _ => True) (.slice (some ⟨go19, 0, none⟩) y163.length co19) y164 := (by rw [hw, Ny164.out]; exact HP33.1); clear HP33; replace HB := Aside0.mk ((by rw [hw]; exact below_set (HB.out) GB19.out : Below w.heap.size w w34)); replace HO_3 := Aside0.mk (Kd.R_over' (v := (.slice (some ⟨go19, 0, none⟩) y163.length co19)) (mv_ HO_3.out) (Kd.R_typed HO_5.out) (by decide) hg); replace HO_5 := Aside0.mk (hp_); clear hg hw hp_))
     go_loopg [31] kj21 (fun kq v31 w' => ∃ (x5_3 : List Int) (x31_3 : Int), v31 = .int .i64 x31_3 ∧ Aside0 (Jx.l1 kq x3_1 (IntKind.u64.wrap ((IntKind.u64.wrap ((a0.size : Int))) * 8)) x5_3 x6_21 x31_3 = some r) ∧ Aside0 (kq ≤ kj21) ∧ Aside0 (Kd.R (Kd.int .u32) 136 w' w.heap.size (fun _ => True) (.slice (some ⟨go5, 0, none⟩) x3_1.length co5) x3_1) ∧ Aside0 (Kd.R (Kd.int .u8) 139 w' w.heap.size (fun _ => True) (.slice (some ⟨go19, 0, none⟩) y163.length co19) x5_3) ∧ Aside0 (Below w.heap.size w w'))
     case atStart => exact ⟨(y164), (0), vq_, H', ⟨Nat.le_refl _⟩, ⟨by refine mv_ ?_; exact HO_3.out⟩, ⟨by refine mv_ ?_; exact HO_5.out⟩, ⟨bl_⟩⟩
     case round =>
      clear H'
      clear c29b0 c29b1 c30b0 c30b1 c31b0 c31b1 p32 q32 hx32_0
      obtain ⟨x5_3, x31_3, rfl, HA, HK3, HO_3, HO_5, HB⟩ := hrel
      have hl5_3 := (Kd.R_reads' HO_5.out).1
      rw [hl5_3] at HO_5
      simp only [hl5_3]
      cases gk with
      | zero => exact absurd HA.out (by simp [Jx.l1])
      | succ k3 =>
       have H := HA.out
       clear HA
       simp only [Jx.l1] at H
       by_cases c35 : x31_3 < 8
       ·rw [if_pos c35] at H
        have c35b0 : decide (x31_3 < 8) = true := decide_eq_true c35
        clear c35
        generalize hji36 : (wrap64 (8 * x31_3)) = ji36 at H
        have hji36w := (i64_w _).trans hji36
        revert H; refine ne_ fun c37 c37b0 c37b1 H => ?_
        clear c37
        generalize hji38 : (shr .u64 (IntKind.u64.wrap ((IntKind.u64.wrap ((a0.size : Int))) * 8)) (ji36)) = ji38 at H
        have hji38_ : ((IntKind.u64.wrap ((IntKind.u64.wrap ((a0.size : Int))) * 8)) / 2 ^ min (ji36).toNat 64) = ji38 := hji38
        have hji38z : (ji36) ≤ 64 → ((IntKind.u64.wrap ((IntKind.u64.wrap ((a0.size : Int))) * 8)) / 2 ^ (ji36).toNat) = ji38 := shr_small hji38
        revert H; refine ne_ fun c39 c39b0 c39b1 H => ?_
        clear c39
        generalize hji40 : (wrap64 ((wrap64 (x6_21 - 1)) - x31_3)) = ji40 at H
        have hji40w := (i64_w _).trans hji40
        revert H; refine nd_ fun c41 c41b0 => nd_ fun c42 c42b0 H => ?_
        clear c41 c42
        generalize e_ : (x5_3.set ((ji40) : Int).toNat ((ji38) % 256) : List Int) = y165 at H
        have Ny165 := Aside0.mk e_.symm
        clear e_
        have H' := Aside0.mk H
        clear H
        have qa43 : (((ji40) : Int) < (128 : Int)) = True := eq_true (by have e_ : x5_3.length = 128 := ae_; have h_ : ((ji40) : Int) < ((x5_3.length : Int) : Int) := ae_; omega)
        have p43 : 0 ≤ ((ji40) : Int) := ae_
        have q43 : ((ji40) : Int) < ((x5_3.length : Int) : Int) := ae_
        obtain ⟨hx43_0, hf43_0⟩ := Kd.R_celln 0 HO_5.out ((ji40) : Int) p43 q43
        replace p43 := eq_true p43
        replace q43 := eq_true q43
        have HP44 := Kd.R_putg HO_5.out ((ji40) : Int) ((ji38) % 256)
        go_wp2_with (first | ((with_reducible refine gate_store (t := 5) (p := 43) rfl ?_); refine store_event (t := 5) (p := 43) (v := ?vo_w45) (w1 := (wr.setCell ⟨go19, ((ji40) : Int).toNat, none⟩ (.int .u8 ((ji38) % 256)))) ?hg ?ho ?hn ?hr ?_; (case ho => rfl); (case hg => rfl); (case hn => rfl); (case hr => exact gr_); intro w45 hw; have hg : wr.grownBy w45 (some go19) := (by rw [hw]; exact HP44.2); have hp_ : Kd.R (Kd.int .u8) 139 w45 w.heap.size (fun _ => True) (.slice (some ⟨go19, 0, none⟩) x5_3.length co19) y165 := (by rw [hw, Ny165.out]; exact HP44.1); clear HP44; replace HB := Aside0.mk ((by rw [hw]; exact below_set (HB.out) GB19.out : Below w.heap.size w w45)); replace HO_3 := Aside0.mk (Kd.R_over' (v := (.slice (some ⟨go19, 0, none⟩) x5_3.length co19)) (mv_ HO_3.out) (Kd.R_typed HO_5.out) (by decide) hg); replace HO_5 := Aside0.mk (hp_); clear hg hw hp_))
        simp only [← hl5_3]
        go_roundg k3
        case measure => have := HK1.out; have := HJ21.out; have := HK3.out; omega
        case rel => exact ⟨(y165), (wrap64 (x31_3 + 1)), vq_, H', ⟨by have := HK1.out; have := HJ21.out; have := HK3.out; omega⟩, ⟨by refine mv_ ?_; exact HO_3.out⟩, ⟨by (simp only [hl5_3]); refine mv_ ?_; exact HO_5.out⟩, ⟨bl_⟩⟩
       rw [if_neg c35] at H
       have c35b0 : decide (x31_3 < 8) = false := decide_eq_false c35
       clear c35
       revert H; refine ne_ fun c46 c46b0 c46b1 => ne_ fun c47 c47b0 c47b1 => ne_ fun c48 c48b0 c48b1 => nd_ fun c49 c49b0 H => ?_
       have c49b1 : decide (0 < x5_3.length) = true := decide_eq_true (by omega)
       clear c46 c47 c48 c49
       have H' := Aside0.mk H
       clear H
       have qa50 : ((0 : Int) < (128 : Int)) = True := eq_true (by have e_ : x5_3.length = 128 := ae_; have h_ : (0 : Int) < ((x5_3.length : Int) : Int) := ae_; omega)
       have p50 : 0 ≤ (0 : Int) := (by omega)
       have q50 : (0 : Int) < ((x5_3.length : Int) : Int) := ae_
       have qi50 : (0 < x5_3.length) = True := eq_true (by omega)
       obtain ⟨hx50_0, hf50_0⟩ := Kd.R_celln 0 HO_5.out (0 : Int) p50 q50
       rw [show ((0 : Int)).toNat = 0 from rfl] at hx50_0
       rw [show ((0 : Int)).toNat = 0 from rfl] at hf50_0
       replace p50 := eq_true p50
       replace q50 := eq_true q50
       have p51 : 0 ≤ (x6_21 : Int) := ae_
       have q51 : (x6_21 : Int) ≤ (128 : Int) := ae_
       go_wp2_with (first | ((with_reducible refine gate_dst (N := 46) rfl ?_); refine aslice_to_event (P := Tryz.prog) rfl (N := 46) rfl 139 5 128 _ _ _ rfl rfl (x6_21 : Int) rfl p51 q51 Tryz.underlying139 (by go_simp) ?_; have hm52 : (x6_21 : Int).toNat ≤ x5_3.length := (by have e_ : x5_3.length = 128 := ae_; have e2_ := (Kd.R_reads' HO_5.out).1; first | omega | (have e3_ : (x6_21 : Int) ≤ 128 := ae_; omega))) | ((with_reducible refine gate_dst (N := 47) rfl ?_); refine astr_event (P := Tryz.prog) rfl (N := 47) rfl 68 9 5 _ rfl rfl Tryz.underlying68 Tryz.underlying5 Tryz.underlying9 HO_5.out hm52 ?_))
       go_loopg [8] k3 (fun kq v8 w' => ∃ (x3_4 : List Int) (x8_4 : ByteArray), v8 = .string x8_4 ∧ Aside0 (Jx.l2 kq x3_4 x8_4 = some r) ∧ Aside0 (kq ≤ k3) ∧ Aside0 (Kd.R (Kd.int .u32) 136 w' w.heap.size (fun _ => True) (.slice (some ⟨go5, 0, none⟩) x3_1.length co5) x3_4) ∧ Aside0 (Below w.heap.size w w'))
       case atStart => exact ⟨(x3_1), (strOfNums (x5_3.take (x6_21 : Int).toNat)), vq_, H', ⟨Nat.le_refl _⟩, ⟨by refine mv_ ?_; exact HO_3.out⟩, ⟨bl_⟩⟩
       case round =>
        clear H'
        clear c35b0 c46b0 c46b1 c47b0 c47b1 c48b0 c48b1 c49b0 c49b1 p50 q50 qi50 p51 q51 hx50_0
        obtain ⟨x3_4, x8_4, rfl, HA, HK4, HO_3, HB⟩ := hrel
        have hl3_4 := (Kd.R_reads' HO_3.out).1
        rw [hl3_4] at HO_3
        simp only [hl3_4]
        cases gk with
        | zero => exact absurd HA.out (by simp [Jx.l2])
        | succ k4 =>
         have H := HA.out
         clear HA
         simp only [Jx.l2] at H
         by_cases c53 : x8_4.toList = ([] : List UInt8)
         ·rw [if_pos c53] at H
          have c53b0 : (x8_4.toList == ([] : List UInt8)) = true := beq_iff_eq.mpr c53
          have c53b1 : (x8_4.toList != ([] : List UInt8)) = false := bne_eq_false_iff_eq.mpr c53
          clear c53
          generalize e_ : (List.replicate 32 0 : List Int) = y167 at H
          have Ny167 := Aside0.mk e_.symm
          clear e_
          have H' := Aside0.mk H
          clear H
          go_wp2_with (first | ((with_reducible refine gate_dst (N := 9) rfl ?_); refine R_arr (Value.int .u8) (fun _ => rfl) _ 140 ?hg (N := 9) ?hd (List.replicate 32 0) ?hr (Below.refl _ _) (Nat.le_refl _) (by decide) ?_; (case hd => rfl); (case hg => rfl); (case hr => exact gr_); intro v168 w54 ho55 hb hg_ hnew_; clear hg_ hnew_; (first | rw [← Ny167.out] at ho55 | (simp only [Int.reduceToNat] at ho55; rw [← Ny167.out] at ho55)); have HO169 := Aside0.mk (Kd.R_lower ho55 (below_size bl_)); replace HB := Aside0.mk (below_step bl_ hb); replace HO_3 := Aside0.mk (Kd.R_below (mv_ HO_3.out) hb); clear hb ho55))
          go_loopg [55] k4 (fun kq v55 w' => ∃ (x9_5 : List Int) (x55_5 : Int), v55 = .int .i64 x55_5 ∧ Aside0 (Jx.l3 kq x3_4 x9_5 x55_5 = some r) ∧ Aside0 (kq ≤ k4) ∧ Aside0 (Kd.R (Kd.int .u32) 136 w' w.heap.size (fun _ => True) (.slice (some ⟨go5, 0, none⟩) x3_4.length co5) x3_4) ∧ Aside0 (Kd.R (Kd.int .u8) 140 w' w.heap.size (fun _ => True) v168 x9_5) ∧ Aside0 (Below w.heap.size w w'))
          case atStart => exact ⟨(y167), (0), vq_, H', ⟨Nat.le_refl _⟩, ⟨by refine mv_ ?_; exact HO_3.out⟩, ⟨by refine mv_ ?_; exact HO169.out⟩, ⟨bl_⟩⟩
          case round =>
           clear H'
           clear c53b0 c53b1
           obtain ⟨x9_5, x55_5, rfl, HA, HK5, HO_3, HO_9, HB⟩ := hrel
           cases gk with
           | zero => exact absurd HA.out (by simp [Jx.l3])
           | succ k5 =>
            have H := HA.out
            clear HA
            simp only [Jx.l3] at H
            by_cases c56 : x55_5 < 32
            ·rw [if_pos c56] at H
             have c56b0 : decide (x55_5 < 32) = true := decide_eq_true c56
             clear c56
             revert H; refine ne_ fun c57 c57b0 c57b1 H => ?_
             clear c57
             generalize hji58 : (wrap64 (Int.tdiv x55_5 4)) = ji58 at H
             have hji58w := (i64_w _).trans hji58
             revert H; refine nd_ fun c59 c59b0 => nd_ fun c60 c60b0 H => ?_
             clear c59 c60
             generalize hji61 : (wrap64 (24 - (wrap64 (8 * (Int.tmod x55_5 4))))) = ji61 at H
             have hji61w := (i64_w _).trans hji61
             revert H; refine ne_ fun c62 c62b0 c62b1 H => ?_
             clear c62
             generalize hji63 : (shr .u32 (rd x3_4 (ji58)) (ji61)) = ji63 at H
             have hji63_ : ((rd x3_4 (ji58)) / 2 ^ min (ji61).toNat 32) = ji63 := hji63
             have hji63z : (ji61) ≤ 32 → ((rd x3_4 (ji58)) / 2 ^ (ji61).toNat) = ji63 := shr_small hji63
             revert H; refine ne_ fun c64 c64b0 c64b1 => nd_ fun c65 c65b0 => nd_ fun c66 c66b0 H => ?_
             clear c64 c65 c66
             generalize e_ : (x9_5.set (x55_5 : Int).toNat ((ji63) % 256) : List Int) = y171 at H
             have Ny171 := Aside0.mk e_.symm
             clear e_
             have H' := Aside0.mk H
             clear H
             have qa170 : (((ji58) : Int) < (8 : Int)) = True := eq_true (by have e_ : x3_4.length = 8 := ae_; have h_ : ((ji58) : Int) < ((x3_4.length : Int) : Int) := ae_; omega)
             have p170 : 0 ≤ ((ji58) : Int) := ae_
             have q170 : (ji58) < (x3_4.length : Int) := ae_
             obtain ⟨ad170, e170, hx170_0⟩ := Kd.at_int (Kd.R_reads' HO_3.out).2.2 (ji58) p170 q170
             obtain rfl : (⟨go5, 0, none⟩ : Addr) = ad170 := (by injection e170)
             (first | simp only [add_plain] at hx170_0 | simp only [add_at] at hx170_0 | simp only [Addr.add, Nat.zero_add] at hx170_0 | skip)
             replace p170 := eq_true p170
             replace q170 := eq_true q170
             have qa67 : ((x55_5 : Int) < (32 : Int)) = True := eq_true (by have e_ : x9_5.length = 32 := ae_; have h_ : (x55_5 : Int) < ((x9_5.length : Int) : Int) := ae_; omega)
             have p67 : 0 ≤ (x55_5 : Int) := ae_
             have q67 : (x55_5 : Int) < ((x9_5.length : Int) : Int) := ae_
             obtain ⟨go67, co67, eo67, gb67, gl67, cl67, HG67⟩ := Kd.R_form HO_9.out (by omega)
             (first | cases eo67 | (injection eo67 with ea_ en_ ec_; (first | subst ea_ | (injection ea_ with ea_; subst ea_)); subst ec_; clear en_))
             have GB67 := Aside0.mk gb67
             have GG67 := Aside0.mk HG67
             clear gb67 gl67 HG67
             obtain ⟨hx67_0, hf67_0⟩ := Kd.R_celln 0 HO_9.out (x55_5 : Int) p67 q67
             replace p67 := eq_true p67
             replace q67 := eq_true q67
             have HP68 := Kd.R_putg HO_9.out (x55_5 : Int) ((ji63) % 256)
             go_wp2_with (first | ((with_reducible refine gate_store (t := 5) (p := 69) rfl ?_); refine store_event (t := 5) (p := 69) (v := ?vo_w69) (w1 := (wr.setCell ⟨go67, (x55_5 : Int).toNat, none⟩ (.int .u8 ((ji63) % 256)))) ?hg ?ho ?hn ?hr ?_; (case ho => rfl); (case hg => rfl); (case hn => rfl); (case hr => exact gr_); intro w69 hw; have hg : wr.grownBy w69 (some go67) := (by rw [hw]; exact HP68.2); have hp_ : Kd.R (Kd.int .u8) 140 w69 w.heap.size (fun _ => True) (.slice (some ⟨go67, 0, none⟩) x9_5.length co67) y171 := (by rw [hw, Ny171.out]; exact HP68.1); clear HP68; replace HB := Aside0.mk ((by rw [hw]; exact below_set (HB.out) GB67.out : Below w.heap.size w w69)); replace HO_3 := Aside0.mk (Kd.R_over' (v := (.slice (some ⟨go67, 0, none⟩) x9_5.length co67)) (mv_ HO_3.out) (Kd.R_typed HO_9.out) (by decide) hg); replace HO_9 := Aside0.mk (hp_); clear hg hw hp_))
             go_roundg k5
             case measure => have := HK1.out; have := HJ21.out; have := HK3.out; have := HK4.out; have := HK5.out; omega
             case rel => exact ⟨(y171), (wrap64 (x55_5 + 1)), vq_, H', ⟨by have := HK1.out; have := HJ21.out; have := HK3.out; have := HK4.out; have := HK5.out; omega⟩, ⟨by refine mv_ ?_; exact HO_3.out⟩, ⟨by refine mv_ ?_; exact HO_9.out⟩, ⟨bl_⟩⟩
            rw [if_neg c56] at H
            have c56b0 : decide (x55_5 < 32) = false := decide_eq_false c56
            clear c56
            revert H; refine ne_ fun c70 c70b0 c70b1 => nd_ fun c71 c71b0 H => ?_
            have c71b1 : decide (0 < x9_5.length) = true := decide_eq_true (by omega)
            clear c70 c71
            obtain rfl := Option.some.inj H
            have qa72 : ((0 : Int) < (32 : Int)) = True := eq_true (by have e_ : x9_5.length = 32 := ae_; have h_ : (0 : Int) < ((x9_5.length : Int) : Int) := ae_; omega)
            have p72 : 0 ≤ (0 : Int) := (by omega)
            have q72 : (0 : Int) < ((x9_5.length : Int) : Int) := ae_
            have qi72 : (0 < x9_5.length) = True := eq_true (by omega)
            obtain ⟨go72, co72, eo72, gb72, gl72, cl72, HG72⟩ := Kd.R_form HO_9.out (by omega)
            (first | cases eo72 | (injection eo72 with ea_ en_ ec_; (first | subst ea_ | (injection ea_ with ea_; subst ea_)); subst ec_; clear en_))
            have GB72 := Aside0.mk gb72
            have GG72 := Aside0.mk HG72
            clear gb72 gl72 HG72
            obtain ⟨hx72_0, hf72_0⟩ := Kd.R_celln 0 HO_9.out (0 : Int) p72 q72
            rw [show ((0 : Int)).toNat = 0 from rfl] at hx72_0
            rw [show ((0 : Int)).toNat = 0 from rfl] at hf72_0
            replace p72 := eq_true p72
            replace q72 := eq_true q72
            go_wp2_with (first | ((with_reducible refine gate_dst (N := 71) rfl ?_); refine aslice_event (P := Tryz.prog) rfl (N := 71) rfl 140 5 32 _ _ rfl rfl Tryz.underlying140 (by go_simp) ?_; have hm74 : 32 ≤ x9_5.length := (by have e_ : x9_5.length = 32 := ae_; have e2_ := (Kd.R_reads' HO_9.out).1; first | omega | (have e3_ : (32 : Int) ≤ 32 := ae_; omega))) | ((with_reducible refine gate_dst (N := 72) rfl ?_); refine astr_event (P := Tryz.prog) rfl (N := 72) rfl 68 9 5 _ rfl rfl Tryz.underlying68 Tryz.underlying5 Tryz.underlying9 HO_9.out hm74 ?_))
            go_ret
            exact ⟨er_, bl_⟩
         rw [if_neg c53] at H
         have c53b0 : (x8_4.toList == ([] : List UInt8)) = false := beq_eq_false_iff_ne.mpr c53
         have c53b1 : (x8_4.toList != ([] : List UInt8)) = true := bne_iff_ne.mpr c53
         revert H; refine ne_ fun c75 c75b0 c75b1 => ne_ fun c76 c76b0 c76b1 => oa_ fun t166 A77 H => ?_
         clear c75 c76
         have c78b0 := eq_true (ae_ : 64 ≤ (x8_4.size : Int))
         have H' := Aside0.mk H
         clear H
         go_wp2_with (first | ((with_reducible refine gate_callee (f := 97) rfl ?_); refine gL_ 54 Tryz.func97 #[.pointer (some ⟨go5, 0, none⟩), .string (x8_4.extract 0 64)] ?_; (with_reducible refine (Jb.calls k4 (fun k_ => some k_ = (.slice (some ⟨go5, 0, none⟩) x3_4.length co5 : Value).ownBlock) (.slice (some ⟨go5, 0, none⟩) x3_4.length co5) x3_4 (x8_4.extract 0 64) t166 w _ ?side1 ?side2 ?side3 A77.out).mono ?_); (case side1 => repeat (first | (with_reducible first | exact HB.out | apply lA_ | apply lN_ | apply lD_) | exact HB.out)); (case side2 => exact Kd.R_tight rfl HO_3.out); (case side3 => exact Kd.C_kept_came (Kd.heap_int .u32) HRG.out bl_ (fun k_ hs_ => (fun e_ => Kd.R_base HO_3.out k_ e_.symm) hs_)); rintro e w79 ⟨rfl, hy0, hb, hkp⟩; refine ⟨_, rfl, ?_⟩; replace HB := Aside0.mk (hb); replace HO_3 := Aside0.mk (Kd.R_reok rfl hy0 (fun k_ e_ => HO_3.out.1 k_ e_)); clear hb hkp hy0))
         simp only [← hl3_4]
         go_roundg k4
         case measure => have := HK1.out; have := HJ21.out; have := HK3.out; have := HK4.out; omega
         case rel => exact ⟨(t166), (x8_4.extract 64 x8_4.size), vq_, H', ⟨by have := HK1.out; have := HJ21.out; have := HK3.out; have := HK4.out; omega⟩, ⟨by (simp only [hl3_4]); refine mv_ ?_; exact HO_3.out⟩, ⟨bl_⟩⟩

-- NOT PRINTED: function 113 (bytealg_MakeNoZero)

-- NOT PRINTED: function 103 (strings_Builder_grow)

-- NOT PRINTED: function 85 (strings_Builder_Grow)

/-! ### U1 = octets_Long: function 98 -/
def U1.f (k : Nat) (a0 : Int) : Option (ByteArray × Bool) := (Jr.f k a0 4).bind fun bt172 => (some (bt172.1, bt172.2))
set_option maxHeartbeats 64000000 in
set_option maxRecDepth 100000 in
theorem U1.calls (k : Nat) (a0 : Int) (r1 : ByteArray) (r2 : Bool) (w : World) (h : U1.f k a0 = some (r1, r2)) :
 Calls Tryz.prog 98 #[.int .i64 a0] w fun e w' => e = .returned (.tuple #[.string r1, .bool r2]) ∧ Below w.heap.size w w' := by
 have HB := Aside0.mk (Below.refl w.heap.size w)
 have H : ((Jr.f k a0 4).bind fun bt172 => (some (bt172.1, bt172.2))) = some (r1, r2) := h
 clear h
 replace H := ob_ H
 obtain ⟨⟨t172, t173⟩, A20, H⟩ := H
 replace H : (some (t172, t173)) = some (r1, r2) := H
 have A2 := Aside0.mk A20
 clear A20
 simp only [Option.some.injEq, Prod.mk.injEq] at H
 obtain ⟨rfl, rfl⟩ := H
 go_enter Tryz.func98, Tryz.ntmps98
 go_wp2_with (first | ((with_reducible refine gate_callee (f := 80) rfl ?_); refine gL_ 5 Tryz.func80 #[.int .i64 a0, .int .i64 4] ?_; (with_reducible refine (Jr.calls k a0 4 t172 t173 _ A2.out).mono ?_); rintro e w3 ⟨rfl, hb⟩; refine ⟨_, rfl, ?_⟩; replace HB := Aside0.mk (below_step bl_ hb); clear hb))
 go_ret2
 exact ⟨er_, bl_⟩

/-! ### J2 = sha_Input: function 73 (walked by hand) -/
/-- Texts with their lengths in four bytes, one behind the other. -/
def J2.parts (k : Nat) : List ByteArray → Option (List UInt8)
  | [] => some []
  | s :: l => (U1.f k (s.size : Int)).bind fun n => (J2.parts k l).bind fun r => some ((n.1.toList ++ s.toList) ++ r)
def J2.u8 (x : Int) : UInt8 := UInt8.ofNat (x % 256).toNat
def J2.f (k : Nat) (a0 : Int) (l1 : List ByteArray) : Option ByteArray :=
  (J2.parts k l1).bind fun r => if ([J2.u8 a0] ++ r).length ≤ 140737488355328 then some ⟨([J2.u8 a0] ++ r).toArray⟩ else none
theorem J2.wrap_step {n : Nat} {x : Int} (h : (n : Nat) ≤ 9223372036854775807) (h0 : 0 ≤ x) (h1 : x < (n : Int)) : IntKind.i64.wrap (x + 1) = x + 1 := by
  rw [IntKind.wrap_i64]; omega
theorem J2.size_toList (s : ByteArray) : s.toList.length = s.size := by rw [ByteArray.toList_eq, data_length]
theorem J2.drop_rd (l : List ByteArray) (x : Int) (h0 : 0 ≤ x) (h1 : x < (l.length : Int)) : l.drop x.toNat = rdOf ByteArray.empty l x :: l.drop (x + 1).toNat := by
  have hl : x.toNat < l.length := by omega
  have e : (x + 1).toNat = x.toNat + 1 := by omega
  rw [e, List.drop_eq_getElem_cons hl]
  congr 1
  simp [rdOf, List.getD, hl]
set_option maxHeartbeats 8000000 in
set_option maxRecDepth 100000 in
theorem J2.calls (k : Nat) (a0 : Int) (A1 : Option Addr) (c1 : Nat) (l1 : List ByteArray) (r : ByteArray) (w : World) (hr1 : Kd.C Kd.string w A1 l1.length l1) (hc1 : l1.length ≤ c1) (h : J2.f k a0 l1 = some r) :
    Calls Tryz.prog 73 #[.int .i64 a0, .slice A1 l1.length c1] w fun e w' => e = .returned (.string r) ∧ Below w.heap.size w w' := by
  have HR1 := Aside0.mk hr1
  have HC1 := Aside0.mk hc1
  clear hr1 hc1
  unfold J2.f at h
  obtain ⟨rest, hR, h⟩ := Option.bind_eq_some_iff.mp h
  obtain ⟨bs, hbs⟩ : ∃ bs, [J2.u8 a0] ++ rest = bs := ⟨_, rfl⟩
  rw [hbs] at h
  have hbl : bs.length ≤ 140737488355328 := by
    by_cases hh : bs.length ≤ 140737488355328
    · exact hh
    · rw [if_neg hh] at h; cases h
  rw [if_pos hbl] at h
  obtain rfl := Option.some.inj h
  have HL := Aside0.mk hbl
  have HT0 := Aside0.mk hR
  have HBS0 := Aside0.mk hbs
  have HBL := Aside0.mk (show 1 + rest.length = bs.length by rw [← hbs]; simp; omega)
  have hn1 := HR1.out.2.1
  have hrest : rest.length < bs.length := by have := HBL.out; omega
  clear h hbl hR hbs hrest
  go_enter Tryz.func73, Tryz.ntmps73
  go_wp2_with (first | ((with_reducible refine gate_dst (N := 5) rfl ?_); refine Kd.event_run (w1 := w.alloc (.cells #[.pointer none, .slice none 0 0] 110)) (v := .pointer (some ⟨w.heap.size, 0, none⟩)) ?hg ?hr ?_; (case hg => rfl); (case hr => first | (go_simp; done) | (go_simp; rfl))) | (go_at_call 85; (refine (Bld.St.grow w 64 (by decide)).mono ?_); rintro e w3 ⟨rfl, hs⟩; obtain ⟨b, hb_⟩ : ∃ b, b = w.heap.size := ⟨_, rfl⟩; rw [← hb_] at hs; rw [← hb_]; have HS := Aside0.mk hs; have LB := Aside0.mk (show w.heap.size ≤ b by rw [hb_]; exact Nat.le_refl _); clear hs hb_) | (go_at_call 70; (refine (HS.out.byte _ ?s0 ?s1 ?s2).mono ?_); (case s0 => first | omega | (simp only [IntKind.wrap_u8]; omega)); (case s1 => first | omega | (simp only [IntKind.wrap_u8]; omega)); (case s2 => first | (simp; done) | (have := HL.out; have := HBL.out; simp at *; omega)); rintro e w4 ⟨rfl, hs⟩; have n0_ := Aside0.mk hs; clear HS hs; have HS := n0_; clear n0_))
  go_loopg [16] l1.length (fun kq v16 w' => ∃ x : Int, v16 = .int .i64 x ∧ Aside0 (0 ≤ x ∧ x + (kq : Int) = (l1.length : Int)) ∧ Aside0 (∃ acc rest, J2.parts k (l1.drop x.toNat) = some rest ∧ acc ++ rest = bs ∧ Bld.St w b acc w'))
  case atStart => exact ⟨0, (by first | rfl | simp), ⟨by omega⟩, ⟨_, rest, HT0.out, HBS0.out, HS.out⟩⟩
  case round =>
    obtain ⟨x, rfl, HP, HE⟩ := hrel
    clear HS HBL HT0 HBS0
    obtain ⟨acc, rest1, hT, hE, hS⟩ := HE.out
    have HS := Aside0.mk hS
    have hp := HP.out
    cases gk with
    | zero =>
      have hc : decide (x < (l1.length : Int)) = false := decide_eq_false (by omega)
      have hd : l1.drop x.toNat = [] := List.drop_of_length_le (by omega)
      rw [hd] at hT
      have hr0 : rest1 = [] := (Option.some.inj hT).symm
      have HBS := Aside0.mk (show acc = bs by rw [← hE, hr0, List.append_nil])
      clear hT hE hS hd hr0 HE hp HP
      go_wp2_with (first | (go_at_call 71; have n0_ := Aside0.mk (HS.out.cast (show _ = bs from HBS.out)); clear HS; have HS := n0_; clear n0_; (refine HS.out.out.mono ?_); rintro e w7 ⟨rfl, hs⟩; have n0_ := Aside0.mk hs; clear HS hs; have HS := n0_; clear n0_))
      go_ret
      exact ⟨rfl, HS.out.below (Below.refl _ _) LB.out⟩
    | succ k1 =>
      have hc : decide (x < (l1.length : Int)) = true := decide_eq_true (by omega)
      have p0 : (0 ≤ x) = True := eq_true (by omega)
      have q0 : (x < (l1.length : Int)) = True := eq_true (by omega)
      have hw1 := J2.wrap_step (n := l1.length) (x := x) hn1 (by omega) (by omega)
      rw [J2.drop_rd l1 x (by omega) (by omega)] at hT
      unfold J2.parts at hT
      obtain ⟨⟨n, ok⟩, hT1, hT⟩ := Option.bind_eq_some_iff.mp hT
      obtain ⟨rest2, hT2, hT⟩ := Option.bind_eq_some_iff.mp hT
      have hr1 : (n.toList ++ (rdOf ByteArray.empty l1 x).toList) ++ rest2 = rest1 := Option.some.inj hT
      have HT := Aside0.mk hT1
      have HT2 := Aside0.mk hT2
      have HE2 := Aside0.mk (show ((acc ++ n.toList) ++ (rdOf ByteArray.empty l1 x).toList) ++ rest2 = bs by rw [← hE, ← hr1]; simp only [List.append_assoc])
      have HBL := Aside0.mk (show acc.length + n.size + (rdOf ByteArray.empty l1 x).size + rest2.length = bs.length by rw [← HE2.out]; simp [J2.size_toList]; omega)
      obtain ⟨ad, e4_, hx⟩ := Kd.at_string HR1.out x (by omega) (by omega)
      cases e4_
      have hx0 := ((HS.out.below (Below.refl _ _) LB.out).cell (World.block_lt_of_cell? w _ hx)).trans hx
      clear hT hT1 hT2 hE hS hr1 HE hx hp
      go_wp2_with (first | (go_at_call 98; (with_reducible refine (U1.calls k _ n ok _ HT.out).mono ?_); rintro e w5 ⟨rfl, hb⟩; have n0_ := Aside0.mk (HS.out.later hb); clear HS hb; have HS := n0_; clear n0_) | (go_at_call 69; (refine (HS.out.str _ ?s2).mono ?_); (case s2 => have := HL.out; have := HBL.out; (try simp only [List.length_append, J2.size_toList]); omega); rintro e w6 ⟨rfl, hs⟩; have n0_ := Aside0.mk hs; clear HS hs; have HS := n0_; clear n0_))
      go_roundg k1
      case measure => omega
      case rel => exact ⟨x + 1, (by first | rfl | (simp; done) | (simp [*]; done) | (refine congrArg (Value.int _) ?_; rw [hw1])), ⟨by have := HP.out; omega⟩, ⟨_, rest2, HT2.out, HE2.out, HS.out⟩⟩

/-! ### J5 = sha_Tag: function 45 -/
def J5.f (k : Nat) (a0 : Int) (l1 : List ByteArray) : Option (ByteArray) := (J2.f k a0 l1).bind fun t174 => ((Jx.f k t174).bind fun t175 => (some t175))
set_option maxHeartbeats 64000000 in
set_option maxRecDepth 100000 in
theorem J5.calls (k : Nat) (a0 : Int) (A1 : Option Addr) (c1 : Nat) (l1 : List ByteArray) (r : ByteArray) (w : World) (hr1 : Kd.C Kd.string w A1 l1.length l1) (hc1 : l1.length ≤ c1) (hrG : Kd.C (Kd.int .u32) w (some ⟨0, 0, none⟩) keysL.length keysL) (h : J5.f k a0 l1 = some r) :
 Calls Tryz.prog 45 #[.int .i64 a0, .slice A1 l1.length c1] w fun e w' => e = .returned (.string r) ∧ Below w.heap.size w w' := by
 have HR1 := Aside0.mk hr1
 have HC1 := Aside0.mk hc1
 clear hr1 hc1
 have HRG := Aside0.mk hrG
 clear hrG
 have HB := Aside0.mk (Below.refl w.heap.size w)
 have H : ((J2.f k a0 l1).bind fun t174 => ((Jx.f k t174).bind fun t175 => (some t175))) = some r := h
 clear h
 revert H; refine oa_ fun t174 A3 => oa_ fun t175 A4 H => ?_
 obtain rfl := Option.some.inj H
 go_enter Tryz.func45, Tryz.ntmps45
 go_wp2_with (first | ((with_reducible refine gate_callee (f := 73) rfl ?_); refine gL_ 7 Tryz.func73 #[.int .i64 a0, .slice A1 l1.length c1] ?_; (with_reducible refine (J2.calls k a0 _ _ l1 t174 _ ?side1 ?side2 A3.out).mono ?_); (case side1 => repeat (first | exact HR1.out | (with_reducible refine Kd.C_alloc ?_ _) | (with_reducible refine Kd.C_drewN ?_ _) | (with_reducible refine Kd.C_drew ?_))); (case side2 => exact HC1.out); rintro e w5 ⟨rfl, hb⟩; refine ⟨_, rfl, ?_⟩; replace HB := Aside0.mk (below_step bl_ hb); clear hb) | ((with_reducible refine gate_callee (f := 72) rfl ?_); refine gL_ 8 Tryz.func72 #[.string t174] ?_; (with_reducible refine (Jx.calls k t174 t175 _ ?side1 A4.out).mono ?_); (case side1 => repeat (first | exact (Kd.C_below HRG.out HB.out) | (with_reducible refine Kd.C_alloc ?_ _) | (with_reducible refine Kd.C_drewN ?_ _) | (with_reducible refine Kd.C_drew ?_))); rintro e w6 ⟨rfl, hb⟩; refine ⟨_, rfl, ?_⟩; replace HB := Aside0.mk (below_step bl_ hb); clear hb))
 go_ret
 exact ⟨er_, bl_⟩

/-! ### U5 = event_Id: function 20 -/
def U5.f (k : Nat) (a0 : ByteArray) : Option (ByteArray) := (J5.f k 7 (([a0] : List ByteArray))).bind fun t179 => (some t179)
set_option maxHeartbeats 64000000 in
set_option maxRecDepth 100000 in
theorem U5.calls (k : Nat) (a0 : ByteArray) (r : ByteArray) (w : World) (hrG : Kd.C (Kd.int .u32) w (some ⟨0, 0, none⟩) keysL.length keysL) (h : U5.f k a0 = some r) :
 Calls Tryz.prog 20 #[.string a0] w fun e w' => e = .returned (.string r) ∧ Below w.heap.size w w' := by
 have HRG := Aside0.mk hrG
 clear hrG
 have HB := Aside0.mk (Below.refl w.heap.size w)
 have H : ((J5.f k 7 (([a0] : List ByteArray))).bind fun t179 => (some t179)) = some r := h
 clear h
 generalize e_ : (([a0] : List ByteArray) : List ByteArray) = y176 at H
 have Ny176 := Aside0.mk e_.symm
 clear e_
 revert H; refine oa_ fun t179 A2 H => ?_
 obtain rfl := Option.some.inj H
 go_enter Tryz.func20, Tryz.ntmps20
 go_wp2_with (first | ((with_reducible refine gate_dst (N := 4) rfl ?_); refine Kd.R_lit Kd.string _ 9 ?hg (N := 4) ?hd (xs := ([a0] : List ByteArray)) (inner := [.string a0]) (ok := fun _ => True) (okp := fun _ => True) ?hr ?hp (fun _ hk => hk) trivial (Below.refl _ _) (Nat.le_refl _) (by simp) ?_; (case hd => rfl); (case hg => rfl); (case hr => exact gr_); (case hp => exact (Reps.one (show Kd.M Kd.string _ _ _ a0 [.string a0] from rfl) (Reps.none _ _))); intro v177 w3 ho4 hb hg_ hnew_; clear hg_ hnew_; (first | rw [← Ny176.out] at ho4 | (simp only [Int.reduceToNat] at ho4; rw [← Ny176.out] at ho4)); have HO178 := Aside0.mk (Kd.R_lower ho4 (below_size bl_)); replace HB := Aside0.mk (below_step bl_ hb); clear hb ho4; obtain ⟨Ao5, co5, eo5⟩ := Kd.R_slice HO178.out; subst eo5) | ((with_reducible refine gate_callee (f := 45) rfl ?_); refine gL_ 5 Tryz.func45 #[.int .i64 7, .slice Ao5 y176.length co5] ?_; (with_reducible refine (J5.calls k 7 _ _ y176 t179 _ ?side1 ?side2 ?side3 A2.out).mono ?_); (case side1 => repeat (first | exact (Kd.R_reads' HO178.out).2.2 | (with_reducible refine Kd.C_alloc ?_ _) | (with_reducible refine Kd.C_drewN ?_ _) | (with_reducible refine Kd.C_drew ?_))); (case side2 => exact (Kd.R_reads' HO178.out).2.1); (case side3 => repeat (first | exact (Kd.C_below HRG.out HB.out) | (with_reducible refine Kd.C_alloc ?_ _) | (with_reducible refine Kd.C_drewN ?_ _) | (with_reducible refine Kd.C_drew ?_))); rintro e w6 ⟨rfl, hb⟩; refine ⟨_, rfl, ?_⟩; replace HB := Aside0.mk (below_step bl_ hb); replace HO178 := Aside0.mk (Kd.R_below (mv_ HO178.out) hb); clear hb))
 go_ret
 exact ⟨er_, bl_⟩

/-! ### Jc = palaverref01_Number: function 33 -/
mutual
def Jc.l0 : Nat → Int → Int → Int → Int → Option (ByteArray × Bool)
 | 0, _, _, _, _ => none
 | k + 1, x0, x1, x6, x7 => if x7 < x1 then (Jc.l0 k x0 x1 (wrap64 (256 * x6)) (wrap64 (x7 + 1))) else (if x0 < 0 then (Jc.j1 k x0 x1 true) else (Jc.j1 k x0 x1 (decide (x0 ≥ x6))))
def Jc.j1 : Nat → Int → Int → Bool → Option (ByteArray × Bool)
 | 0, _, _, _ => none
 | k + 1, x0, x1, x23 => if x23 = true then (some ((⟨#[]⟩ : ByteArray), false)) else (Jc.l1 k x0 x1 (⟨#[]⟩ : ByteArray) 0)
def Jc.l1 : Nat → Int → Int → ByteArray → Int → Option (ByteArray × Bool)
 | 0, _, _, _, _ => none
 | k + 1, x0, x1, x8, x9 => if x9 < x1 then ((some (([(Int.tmod x0 256) % 256] : List Int) : List Int)).bind fun y180 => (if (strOfNums y180).size + x8.size ≤ 9223372036854775807 then (Jc.l1 k (wrap64 (Int.tdiv x0 256)) x1 ((strOfNums y180) ++ x8) (wrap64 (x9 + 1))) else (none))) else (some (x8, true))
end
def Jc.f (k : Nat) (a0 : Int) (a1 : Int) : Option (ByteArray × Bool) := Jc.l0 k a0 a1 1 0
set_option maxHeartbeats 64000000 in
set_option maxRecDepth 100000 in
theorem Jc.calls (k : Nat) (a0 : Int) (a1 : Int) (r1 : ByteArray) (r2 : Bool) (w : World) (h : Jc.f k a0 a1 = some (r1, r2)) :
 Calls Tryz.prog 33 #[.int .i64 a0, .int .i64 a1] w fun e w' => e = .returned (.tuple #[.string r1, .bool r2]) ∧ Below w.heap.size w w' := by
 have HB := Aside0.mk (Below.refl w.heap.size w)
 have H : (Jc.l0 k a0 a1 1 0) = some (r1, r2) := h
 clear h
 have H' := Aside0.mk H
 clear H
 go_enter Tryz.func33, Tryz.ntmps33
 go_wp2
 go_loopg [6, 7] k (fun kq v6 v7 w' => ∃ (x6_1 : Int) (x7_1 : Int), v6 = .int .i64 x6_1 ∧ v7 = .int .i64 x7_1 ∧ Aside0 (Jc.l0 kq a0 a1 x6_1 x7_1 = some (r1, r2)) ∧ Aside0 (kq ≤ k) ∧ Aside0 (Below w.heap.size w w'))
 case atStart => exact ⟨(1), (0), vq_, vq_, H', ⟨Nat.le_refl _⟩, ⟨bl_⟩⟩
 case round =>
  clear H'
  obtain ⟨x6_1, x7_1, rfl, rfl, HA, HK1, HB⟩ := hrel
  cases gk with
  | zero => exact absurd HA.out (by simp [Jc.l0])
  | succ k1 =>
   have H := HA.out
   clear HA
   simp only [Jc.l0] at H
   by_cases c3 : x7_1 < a1
   ·rw [if_pos c3] at H
    have c3b0 : decide (x7_1 < a1) = true := decide_eq_true c3
    clear c3
    have H' := Aside0.mk H
    clear H
    go_wp2
    go_roundg k1
    case measure => have := HK1.out; omega
    case rel => exact ⟨(wrap64 (256 * x6_1)), (wrap64 (x7_1 + 1)), vq_, vq_, H', ⟨by have := HK1.out; omega⟩, ⟨bl_⟩⟩
   rw [if_neg c3] at H
   have c3b0 : decide (x7_1 < a1) = false := decide_eq_false c3
   clear c3
   have HC4 := Aside0.mk H
   clear H
   go_upto_region 6 with (fail)
   go_cut [23] (fun v23 wc => ∃ (kq : Nat) (x23_3 : Bool), v23 = .bool x23_3 ∧ Aside0 (Jc.j1 kq a0 a1 x23_3 = some (r1, r2)) ∧ Aside0 (kq ≤ k1) ∧ Aside0 (Below w.heap.size w wc))
   case first =>
    have H := HC4.out
    clear HC4
    by_cases c5 : a0 < 0
    ·rw [if_pos c5] at H
     have c5b0 : decide (a0 < 0) = true := decide_eq_true c5
     clear c5
     (first | rw [c5b0] | (simp only [i64_w, i32_w]; rw [c5b0]) | skip)
     have H' := Aside0.mk H
     clear H
     go_wp2
     go_meet
     case rel => exact ⟨_, (true), vq_, H', ⟨by have := HK1.out; first | omega | exact Nat.le_refl _⟩, ⟨bl_⟩⟩
    rw [if_neg c5] at H
    have c5b0 : decide (a0 < 0) = false := decide_eq_false c5
    clear c5
    (first | rw [c5b0] | (simp only [i64_w, i32_w]; rw [c5b0]) | skip)
    have H' := Aside0.mk H
    clear H
    go_wp2
    go_meet
    case rel => exact ⟨_, (decide (a0 ≥ x6_1)), vq_, H', ⟨by have := HK1.out; first | omega | exact Nat.le_refl _⟩, ⟨bl_⟩⟩
   case rest =>
    clear HC4
    clear c3b0
    obtain ⟨kq, x23_3, rfl, HA, HJ3, HB⟩ := hcut
    cases kq with
    | zero => exact absurd HA.out (by simp [Jc.j1])
    | succ kj3 =>
     have H := HA.out
     clear HA
     simp only [Jc.j1] at H
     by_cases c6 : x23_3 = true
     ·subst c6
      have H1 : (some ((⟨#[]⟩ : ByteArray), false)) = some (r1, r2) := by rw [if_pos rfl] at H; exact H
      clear H
      have H := H1
      clear H1
      simp only [Option.some.injEq, Prod.mk.injEq] at H
      obtain ⟨rfl, rfl⟩ := H
      go_wp2
      go_ret2
      exact ⟨er_, bl_⟩
     replace c6 := Bool.eq_false_iff.mpr c6
     subst c6
     have H1 : (Jc.l1 kj3 a0 a1 (⟨#[]⟩ : ByteArray) 0) = some (r1, r2) := by rw [if_neg (show ¬ (false = true) by decide)] at H; exact H
     clear H
     have H := H1
     clear H1
     have H' := Aside0.mk H
     clear H
     go_wp2
     go_loopg [0, 8, 9] kj3 (fun kq v0 v8 v9 w' => ∃ (x0_3 : Int) (x8_3 : ByteArray) (x9_3 : Int), v0 = .int .i64 x0_3 ∧ v8 = .string x8_3 ∧ v9 = .int .i64 x9_3 ∧ Aside0 (Jc.l1 kq x0_3 a1 x8_3 x9_3 = some (r1, r2)) ∧ Aside0 (kq ≤ kj3) ∧ Aside0 (Below w.heap.size w w'))
     case atStart => exact ⟨(a0), ((⟨#[]⟩ : ByteArray)), (0), vq_, vq_, vq_, H', ⟨Nat.le_refl _⟩, ⟨bl_⟩⟩
     case round =>
      clear H'
      obtain ⟨x0_3, x8_3, x9_3, rfl, rfl, rfl, HA, HK3, HB⟩ := hrel
      cases gk with
      | zero => exact absurd HA.out (by simp [Jc.l1])
      | succ k3 =>
       have H := HA.out
       clear HA
       simp only [Jc.l1] at H
       by_cases c7 : x9_3 < a1
       ·rw [if_pos c7] at H
        have c7b0 : decide (x9_3 < a1) = true := decide_eq_true c7
        clear c7
        revert H; refine oy_ fun y180 Ny180 => ne_ fun c8 c8b0 c8b1 H => ?_
        try have c8b2 : (9223372036854775807 < (strOfNums y180).size + x8_3.size) = False := eq_false (Nat.not_lt.2 c8)
        have H' := Aside0.mk H
        clear H
        go_wp2_with (first | ((with_reducible refine gate_dst (N := 32) rfl ?_); refine Kd.R_lit (Kd.int .u8) _ 5 ?hg (N := 32) ?hd (xs := ([(Int.tmod x0_3 256) % 256] : List Int)) (inner := [.int .u8 ((Int.tmod x0_3 256) % 256)]) (ok := fun _ => True) (okp := fun _ => True) ?hr ?hp (fun _ hk => hk) trivial (Below.refl _ _) (Nat.le_refl _) (by simp) ?_; (case hd => rfl); (case hg => rfl); (case hr => exact gr_); (case hp => exact (Reps.one (show Kd.M (Kd.int .u8) _ _ _ ((Int.tmod x0_3 256) % 256) [.int .u8 ((Int.tmod x0_3 256) % 256)] from rfl) (Reps.none _ _))); intro v181 w9 ho10 hb hg_ hnew_; clear hg_ hnew_; (first | rw [← Ny180.out] at ho10 | (simp only [Int.reduceToNat] at ho10; rw [← Ny180.out] at ho10)); have HO182 := Aside0.mk (Kd.R_lower ho10 (below_size bl_)); replace HB := Aside0.mk (below_step bl_ hb); clear hb ho10; have hcv11 := own_string (P := Tryz.prog) Tryz.underlying68 Tryz.underlying5 Tryz.underlying9 (Kd.own_of_R HO182.out)))
        go_roundg k3
        case measure => have := HK1.out; have := HJ3.out; have := HK3.out; omega
        case rel => exact ⟨(wrap64 (Int.tdiv x0_3 256)), ((strOfNums y180) ++ x8_3), (wrap64 (x9_3 + 1)), vq_, vq_, vq_, H', ⟨by have := HK1.out; have := HJ3.out; have := HK3.out; omega⟩, ⟨bl_⟩⟩
       rw [if_neg c7] at H
       have c7b0 : decide (x9_3 < a1) = false := decide_eq_false c7
       clear c7
       simp only [Option.some.injEq, Prod.mk.injEq] at H
       obtain ⟨rfl, rfl⟩ := H
       go_wp2
       go_ret2
       exact ⟨er_, bl_⟩

/-! ### Jh = palaverref02_Input: function 34 -/
def Jh.l0 : Nat → List ByteArray → List Int → Int → Option (ByteArray)
 | 0, _, _, _ => none
 | k + 1, x1, x5, x6 => if x6 < (x1.length : Int) then (if 0 ≤ x6 then ((Jc.f k ((rdOf ByteArray.empty x1 x6).size : Int) 4).bind fun bt187 => (if x5.length + bt187.1.size < 140737488355328 then ((some (x5 ++ bytesOf bt187.1 : List Int)).bind fun y189 => (if y189.length + (rdOf ByteArray.empty x1 x6).size < 140737488355328 then (Jh.l0 k x1 (y189 ++ bytesOf (rdOf ByteArray.empty x1 x6)) (wrap64 (x6 + 1))) else (none))) else (none))) else (none)) else (some (strOfNums x5))
def Jh.f (k : Nat) (a0 : Int) (l1 : List ByteArray) : Option (ByteArray) := Jh.l0 k l1 (([(Int.tmod (wrap64 ((Int.tmod a0 256) + 256)) 256) % 256] : List Int)) 0
set_option maxHeartbeats 64000000 in
set_option maxRecDepth 100000 in
theorem Jh.calls (k : Nat) (a0 : Int) (A1 : Option Addr) (c1 : Nat) (l1 : List ByteArray) (r : ByteArray) (w : World) (hr1 : Kd.C Kd.string w A1 l1.length l1) (hc1 : l1.length ≤ c1) (h : Jh.f k a0 l1 = some r) :
 Calls Tryz.prog 34 #[.int .i64 a0, .slice A1 l1.length c1] w fun e w' => e = .returned (.string r) ∧ Below w.heap.size w w' := by
 have HR1 := Aside0.mk hr1
 have HC1 := Aside0.mk hc1
 clear hr1 hc1
 have HB := Aside0.mk (Below.refl w.heap.size w)
 have H : (Jh.l0 k l1 (([(Int.tmod (wrap64 ((Int.tmod a0 256) + 256)) 256) % 256] : List Int)) 0) = some r := h
 clear h
 generalize e_ : (([(Int.tmod (wrap64 ((Int.tmod a0 256) + 256)) 256) % 256] : List Int) : List Int) = y183 at H
 have Ny183 := Aside0.mk e_.symm
 clear e_
 have H' := Aside0.mk H
 clear H
 go_enter Tryz.func34, Tryz.ntmps34
 go_wp2_with (first | ((with_reducible refine gate_dst (N := 14) rfl ?_); refine Kd.R_lit (Kd.int .u8) _ 5 ?hg (N := 14) ?hd (xs := ([(Int.tmod (wrap64 ((Int.tmod a0 256) + 256)) 256) % 256] : List Int)) (inner := [.int .u8 ((Int.tmod (wrap64 ((Int.tmod a0 256) + 256)) 256) % 256)]) (ok := fun _ => True) (okp := fun _ => True) ?hr ?hp (fun _ hk => hk) trivial (Below.refl _ _) (Nat.le_refl _) (by simp) ?_; (case hd => rfl); (case hg => rfl); (case hr => exact gr_); (case hp => exact (Reps.one (show Kd.M (Kd.int .u8) _ _ _ ((Int.tmod (wrap64 ((Int.tmod a0 256) + 256)) 256) % 256) [.int .u8 ((Int.tmod (wrap64 ((Int.tmod a0 256) + 256)) 256) % 256)] from rfl) (Reps.none _ _))); intro v184 w3 ho4 hb hg_ hnew_; clear hg_ hnew_; (first | rw [← Ny183.out] at ho4 | (simp only [Int.reduceToNat] at ho4; rw [← Ny183.out] at ho4)); have HO185 := Aside0.mk (Kd.R_lower ho4 (below_size bl_)); replace HB := Aside0.mk (below_step bl_ hb); clear hb ho4))
 go_loopg [5, 6] k (fun kq v5 v6 w' => ∃ (x5_1 : List Int) (x6_1 : Int), v6 = .int .i64 x6_1 ∧ Aside0 (Jh.l0 kq l1 x5_1 x6_1 = some r) ∧ Aside0 (kq ≤ k) ∧ Aside0 (Kd.R (Kd.int .u8) 5 w' w.heap.size (fun _ => True) v5 x5_1) ∧ Aside0 (Below w.heap.size w w'))
 case atStart => exact ⟨(y183), (0), vq_, H', ⟨Nat.le_refl _⟩, ⟨mv_ HO185.out⟩, ⟨bl_⟩⟩
 case round =>
  clear H'
  obtain ⟨x5_1, x6_1, rfl, HA, HK1, HO_5, HB⟩ := hrel
  cases gk with
  | zero => exact absurd HA.out (by simp [Jh.l0])
  | succ k1 =>
   have H := HA.out
   clear HA
   simp only [Jh.l0] at H
   by_cases c5 : x6_1 < (l1.length : Int)
   ·rw [if_pos c5] at H
    have c5b0 : decide (x6_1 < (l1.length : Int)) = true := decide_eq_true c5
    clear c5
    revert H; refine nd_ fun c6 c6b0 H => ?_
    clear c6
    replace H := ob_ H
    obtain ⟨⟨t187, t188⟩, A70, H⟩ := H
    replace H : (if x5_1.length + t187.size < 140737488355328 then ((some (x5_1 ++ bytesOf t187 : List Int)).bind fun y189 => (if y189.length + (rdOf ByteArray.empty l1 x6_1).size < 140737488355328 then (Jh.l0 k1 l1 (y189 ++ bytesOf (rdOf ByteArray.empty l1 x6_1)) (wrap64 (x6_1 + 1))) else (none))) else (none)) = some r := H
    have A7 := Aside0.mk A70
    clear A70
    revert H; refine nc_ fun c8 => oy_ fun y189 Ny189 => nc_ fun c9 H => ?_
    have LMc8 := Aside0.mk c8
    have LMc9 := Aside0.mk c9
    clear c8 c9
    generalize e_ : (y189 ++ bytesOf (rdOf ByteArray.empty l1 x6_1) : List Int) = y193 at H
    have Ny193 := Aside0.mk e_.symm
    clear e_
    have H' := Aside0.mk H
    clear H
    have p186 : 0 ≤ (x6_1 : Int) := ae_
    have q186 : x6_1 < (l1.length : Int) := ae_
    obtain ⟨ad186, e186, hx186_0⟩ := Kd.at_string HR1.out x6_1 p186 q186
    cases e186
    replace hx186_0 := (HB.out.cell (World.block_lt_of_cell? w _ hx186_0)).trans hx186_0
    replace p186 := eq_true p186
    replace q186 := eq_true q186
    go_wp2_with (first | ((with_reducible refine gate_callee (f := 33) rfl ?_); refine gL_ 27 Tryz.func33 #[.int .i64 ((rdOf ByteArray.empty l1 x6_1).size : Int), .int .i64 4] ?_; (with_reducible refine (Jc.calls k1 ((rdOf ByteArray.empty l1 x6_1).size : Int) 4 t187 t188 _ A7.out).mono ?_); rintro e w10 ⟨rfl, hb⟩; refine ⟨_, rfl, ?_⟩; replace HB := Aside0.mk (below_step bl_ hb); replace HO_5 := Aside0.mk (Kd.R_below (mv_ HO_5.out) hb); clear hb) | (at_builtin; refine print_append_str (w0 := w) w.heap.size rfl (.tmp 30) _ 68 9 5 rfl Tryz.underlying68 Tryz.underlying9 info5 u5 x5_1 t187 rfl rfl ?aO ?aB ?aS ?aL ?_; (case aB => exact bl_); (case aO => exact (Kd.own_of_R (mv_ HO_5.out))); (case aS => exact (below_size bl_)); (case aL => have := LMc8.out; omega); intro v190 w11 ho0 hb hg; have ho := Kd.R_of_own (h1 := fun _ => rfl) (ok := fun _ => True) ho0 (fun _ _ => trivial); clear ho0; have hat := True.intro; rw [← Ny189.out] at ho; change Kd.R (Kd.int .u8) 5 w11 w.heap.size (fun _ => True) v190 y189 at ho; have HO191 := Aside0.mk (ho); replace HB := Aside0.mk (hb); clear HO_5; clear ho hb hg hat; have p192 : 0 ≤ (x6_1 : Int) := ae_; have q192 : x6_1 < (l1.length : Int) := ae_; obtain ⟨ad192, e192, hx192_0⟩ := Kd.at_string HR1.out x6_1 p192 q192; obtain rfl : ad186 = ad192 := (by injection e192); replace hx192_0 := (HB.out.cell (World.block_lt_of_cell? w _ hx192_0)).trans hx192_0; replace p192 := eq_true p192; replace q192 := eq_true q192) | (at_builtin; refine print_append_str (w0 := w) w.heap.size rfl (.tmp 33) _ 68 9 5 rfl Tryz.underlying68 Tryz.underlying9 info5 v190 y189 (rdOf ByteArray.empty l1 x6_1) rfl rfl ?aO ?aB ?aS ?aL ?_; (case aB => exact bl_); (case aO => exact (Kd.own_of_R (mv_ HO191.out))); (case aS => exact (below_size bl_)); (case aL => have := LMc9.out; omega); intro v194 w12 ho0 hb hg; have ho := Kd.R_of_own (h1 := fun _ => rfl) (ok := fun _ => True) ho0 (fun _ _ => trivial); clear ho0; have hat := True.intro; rw [← Ny193.out] at ho; change Kd.R (Kd.int .u8) 5 w12 w.heap.size (fun _ => True) v194 y193 at ho; have HO195 := Aside0.mk (ho); replace HB := Aside0.mk (hb); clear HO191; clear ho hb hg hat))
    go_roundg k1
    case measure => have := HK1.out; omega
    case rel => exact ⟨(y193), (wrap64 (x6_1 + 1)), vq_, H', ⟨by have := HK1.out; omega⟩, ⟨mv_ HO195.out⟩, ⟨bl_⟩⟩
   rw [if_neg c5] at H
   have c5b0 : decide (x6_1 < (l1.length : Int)) = false := decide_eq_false c5
   clear c5
   obtain rfl := Option.some.inj H
   have hcv13 := own_string (P := Tryz.prog) Tryz.underlying68 Tryz.underlying5 Tryz.underlying9 (Kd.own_of_R HO_5.out)
   go_wp2
   go_ret
   exact ⟨er_, bl_⟩

/-! ### Ur = palaverref02_Starts: function 91 -/
def Ur.f : Option Unit := some ()
set_option maxHeartbeats 8000000 in
set_option maxRecDepth 100000 in
theorem Ur.calls (w : World) (h : Ur.f = some ()) :
    Calls Tryz.prog 91 #[] w fun e w' => e = .returned (.agg #[.int .u32 1779033703, .int .u32 3144134277, .int .u32 1013904242, .int .u32 2773480762, .int .u32 1359893119, .int .u32 2600822924, .int .u32 528734635, .int .u32 1541459225]) ∧ Below w.heap.size w w' := by
  go_enter Tryz.func91, Tryz.ntmps91
  go_wp2_with (first
    | ((with_reducible refine gate_dst (N := 0) rfl ?_); refine Kd.event_run (w1 := w.alloc (.cells (encs (Value.int .u32) (List.replicate 8 0)).toArray 130)) (v := .pointer (some ⟨w.heap.size, 0, none⟩)) ?hg ?hr ?_; (case hg => rfl); (case hr => first | (go_simp; done) | (go_simp; rfl)); obtain ⟨W1, hW1⟩ : ∃ W1, W1 = w.alloc (.cells (encs (Value.int .u32) (List.replicate 8 0)).toArray 130) := ⟨_, rfl⟩; rw [← hW1]; have hh : W1.heap[w.heap.size]? = some (.cells (encs (Value.int .u32) (List.replicate 8 0)).toArray 130 (0, 0)) := (by rw [hW1]; exact heap_alloc_new w _); have hb : Below w.heap.size w W1 := (by rw [hW1]; exact below_alloc (Below.refl _ _) _); clear hW1)
    | ((with_reducible refine gate_store (t := 130) (p := 0) rfl ?_); refine store_event (t := 130) (p := 0) (v := ?vo) (w1 := W1.setCells w.heap.size 0 (encs (Value.int .u32) [1779033703, 3144134277, 1013904242, 2773480762, 1359893119, 2600822924, 528734635, 1541459225])) ?hg ?ho ?hn ?hr ?_; (case ho => rfl); (case hg => rfl); (case hn => rfl); (case hr => exact store_run0 [1779033703, 3144134277, 1013904242, 2773480762, 1359893119, 2600822924, 528734635, 1541459225] rfl rfl rfl (by kernel_rfl) hh (by rfl)); intro W2 hw; have hh2 := store_heap0 (encs (Value.int .u32) [1779033703, 3144134277, 1013904242, 2773480762, 1359893119, 2600822924, 528734635, 1541459225]) hh (by rfl); have hb2 := store_below0 (encs (Value.int .u32) [1779033703, 3144134277, 1013904242, 2773480762, 1359893119, 2600822924, 528734635, 1541459225]) hb (Nat.le_refl _); rw [← hw] at hh2 hb2; clear hw hh hb))
  (try simp only [Exit.inBlock, Exit.then])
  refine bodyPost_ret (results_cell_row rfl _ _ w.heap.size 130 (encs (Value.int .u32) [1779033703, 3144134277, 1013904242, 2773480762, 1359893119, 2600822924, 528734635, 1541459225]).toArray (0, 0) _ rfl hh2 Tryz.underlying130 rfl (by kernel_rfl)) rfl ?_
  exact ⟨rfl, hb2⟩

/-! ### Uu = palaverref02_table: function 92 -/
def Uu.f : Option Unit := some ()
set_option maxHeartbeats 8000000 in
set_option maxRecDepth 100000 in
theorem Uu.calls (w : World) (h : Uu.f = some ()) :
    Calls Tryz.prog 92 #[] w fun e w' => e = .returned (.agg #[.int .u32 1116352408, .int .u32 1899447441, .int .u32 3049323471, .int .u32 3921009573, .int .u32 961987163, .int .u32 1508970993, .int .u32 2453635748, .int .u32 2870763221, .int .u32 3624381080, .int .u32 310598401, .int .u32 607225278, .int .u32 1426881987, .int .u32 1925078388, .int .u32 2162078206, .int .u32 2614888103, .int .u32 3248222580, .int .u32 3835390401, .int .u32 4022224774, .int .u32 264347078, .int .u32 604807628, .int .u32 770255983, .int .u32 1249150122, .int .u32 1555081692, .int .u32 1996064986, .int .u32 2554220882, .int .u32 2821834349, .int .u32 2952996808, .int .u32 3210313671, .int .u32 3336571891, .int .u32 3584528711, .int .u32 113926993, .int .u32 338241895, .int .u32 666307205, .int .u32 773529912, .int .u32 1294757372, .int .u32 1396182291, .int .u32 1695183700, .int .u32 1986661051, .int .u32 2177026350, .int .u32 2456956037, .int .u32 2730485921, .int .u32 2820302411, .int .u32 3259730800, .int .u32 3345764771, .int .u32 3516065817, .int .u32 3600352804, .int .u32 4094571909, .int .u32 275423344, .int .u32 430227734, .int .u32 506948616, .int .u32 659060556, .int .u32 883997877, .int .u32 958139571, .int .u32 1322822218, .int .u32 1537002063, .int .u32 1747873779, .int .u32 1955562222, .int .u32 2024104815, .int .u32 2227730452, .int .u32 2361852424, .int .u32 2428436474, .int .u32 2756734187, .int .u32 3204031479, .int .u32 3329325298]) ∧ Below w.heap.size w w' := by
  go_enter Tryz.func92, Tryz.ntmps92
  go_wp2_with (first
    | ((with_reducible refine gate_dst (N := 0) rfl ?_); refine Kd.event_run (w1 := w.alloc (.cells (encs (Value.int .u32) (List.replicate 64 0)).toArray 132)) (v := .pointer (some ⟨w.heap.size, 0, none⟩)) ?hg ?hr ?_; (case hg => rfl); (case hr => first | (go_simp; done) | (go_simp; rfl)); obtain ⟨W1, hW1⟩ : ∃ W1, W1 = w.alloc (.cells (encs (Value.int .u32) (List.replicate 64 0)).toArray 132) := ⟨_, rfl⟩; rw [← hW1]; have hh : W1.heap[w.heap.size]? = some (.cells (encs (Value.int .u32) (List.replicate 64 0)).toArray 132 (0, 0)) := (by rw [hW1]; exact heap_alloc_new w _); have hb : Below w.heap.size w W1 := (by rw [hW1]; exact below_alloc (Below.refl _ _) _); clear hW1)
    | ((with_reducible refine gate_store (t := 132) (p := 0) rfl ?_); refine store_event (t := 132) (p := 0) (v := ?vo) (w1 := W1.setCells w.heap.size 0 (encs (Value.int .u32) [1116352408, 1899447441, 3049323471, 3921009573, 961987163, 1508970993, 2453635748, 2870763221, 3624381080, 310598401, 607225278, 1426881987, 1925078388, 2162078206, 2614888103, 3248222580, 3835390401, 4022224774, 264347078, 604807628, 770255983, 1249150122, 1555081692, 1996064986, 2554220882, 2821834349, 2952996808, 3210313671, 3336571891, 3584528711, 113926993, 338241895, 666307205, 773529912, 1294757372, 1396182291, 1695183700, 1986661051, 2177026350, 2456956037, 2730485921, 2820302411, 3259730800, 3345764771, 3516065817, 3600352804, 4094571909, 275423344, 430227734, 506948616, 659060556, 883997877, 958139571, 1322822218, 1537002063, 1747873779, 1955562222, 2024104815, 2227730452, 2361852424, 2428436474, 2756734187, 3204031479, 3329325298])) ?hg ?ho ?hn ?hr ?_; (case ho => rfl); (case hg => rfl); (case hn => rfl); (case hr => exact store_run0 [1116352408, 1899447441, 3049323471, 3921009573, 961987163, 1508970993, 2453635748, 2870763221, 3624381080, 310598401, 607225278, 1426881987, 1925078388, 2162078206, 2614888103, 3248222580, 3835390401, 4022224774, 264347078, 604807628, 770255983, 1249150122, 1555081692, 1996064986, 2554220882, 2821834349, 2952996808, 3210313671, 3336571891, 3584528711, 113926993, 338241895, 666307205, 773529912, 1294757372, 1396182291, 1695183700, 1986661051, 2177026350, 2456956037, 2730485921, 2820302411, 3259730800, 3345764771, 3516065817, 3600352804, 4094571909, 275423344, 430227734, 506948616, 659060556, 883997877, 958139571, 1322822218, 1537002063, 1747873779, 1955562222, 2024104815, 2227730452, 2361852424, 2428436474, 2756734187, 3204031479, 3329325298] rfl rfl rfl (by kernel_rfl) hh (by rfl)); intro W2 hw; have hh2 := store_heap0 (encs (Value.int .u32) [1116352408, 1899447441, 3049323471, 3921009573, 961987163, 1508970993, 2453635748, 2870763221, 3624381080, 310598401, 607225278, 1426881987, 1925078388, 2162078206, 2614888103, 3248222580, 3835390401, 4022224774, 264347078, 604807628, 770255983, 1249150122, 1555081692, 1996064986, 2554220882, 2821834349, 2952996808, 3210313671, 3336571891, 3584528711, 113926993, 338241895, 666307205, 773529912, 1294757372, 1396182291, 1695183700, 1986661051, 2177026350, 2456956037, 2730485921, 2820302411, 3259730800, 3345764771, 3516065817, 3600352804, 4094571909, 275423344, 430227734, 506948616, 659060556, 883997877, 958139571, 1322822218, 1537002063, 1747873779, 1955562222, 2024104815, 2227730452, 2361852424, 2428436474, 2756734187, 3204031479, 3329325298]) hh (by rfl); have hb2 := store_below0 (encs (Value.int .u32) [1116352408, 1899447441, 3049323471, 3921009573, 961987163, 1508970993, 2453635748, 2870763221, 3624381080, 310598401, 607225278, 1426881987, 1925078388, 2162078206, 2614888103, 3248222580, 3835390401, 4022224774, 264347078, 604807628, 770255983, 1249150122, 1555081692, 1996064986, 2554220882, 2821834349, 2952996808, 3210313671, 3336571891, 3584528711, 113926993, 338241895, 666307205, 773529912, 1294757372, 1396182291, 1695183700, 1986661051, 2177026350, 2456956037, 2730485921, 2820302411, 3259730800, 3345764771, 3516065817, 3600352804, 4094571909, 275423344, 430227734, 506948616, 659060556, 883997877, 958139571, 1322822218, 1537002063, 1747873779, 1955562222, 2024104815, 2227730452, 2361852424, 2428436474, 2756734187, 3204031479, 3329325298]) hb (Nat.le_refl _); rw [← hw] at hh2 hb2; clear hw hh hb))
  (try simp only [Exit.inBlock, Exit.then])
  refine bodyPost_ret (results_cell_row rfl _ _ w.heap.size 132 (encs (Value.int .u32) [1116352408, 1899447441, 3049323471, 3921009573, 961987163, 1508970993, 2453635748, 2870763221, 3624381080, 310598401, 607225278, 1426881987, 1925078388, 2162078206, 2614888103, 3248222580, 3835390401, 4022224774, 264347078, 604807628, 770255983, 1249150122, 1555081692, 1996064986, 2554220882, 2821834349, 2952996808, 3210313671, 3336571891, 3584528711, 113926993, 338241895, 666307205, 773529912, 1294757372, 1396182291, 1695183700, 1986661051, 2177026350, 2456956037, 2730485921, 2820302411, 3259730800, 3345764771, 3516065817, 3600352804, 4094571909, 275423344, 430227734, 506948616, 659060556, 883997877, 958139571, 1322822218, 1537002063, 1747873779, 1955562222, 2024104815, 2227730452, 2361852424, 2428436474, 2756734187, 3204031479, 3329325298]).toArray (0, 0) _ rfl hh2 Tryz.underlying132 rfl (by kernel_rfl)) rfl ?_
  exact ⟨rfl, hb2⟩

/-! ### Jd = palaverref02_Padded: function 93 (walked by hand) -/
/-- How many zeros. -/
def Jd.zs (n : Nat) : Nat := (64 - (n + 9) % 64) % 64
/-- The length in bits, as eight bytes. -/
def Jd.be (n : Int) (i : Nat) : Int := n / 256 ^ (7 - i) % 256
def Jd.f (k : Nat) (a0 : ByteArray) : Option ByteArray :=
  if a0.size ≤ 140737488355000 then some (strOfNums (((bytesOf a0 ++ [128]) ++ List.replicate (Jd.zs a0.size) 0) ++ (List.range 8).map (Jd.be (8 * (a0.size : Int))))) else none
theorem Jd.test (n : Nat) (hn : n ≤ 140737488355000) (j : Int) (h0 : 0 ≤ j) (h1 : j ≤ (Jd.zs n : Int)) : (j < (Jd.zs n : Int) → ¬ ((n : Int) + 1 + j + 8) % 64 = 0) ∧ (j = (Jd.zs n : Int) → ((n : Int) + 1 + j + 8) % 64 = 0) := by
  unfold Jd.zs at *
  omega
theorem Jd.next {xs pre : List Int} {n : Int} (i : Nat) (c : Int) (h : xs = pre ++ (List.range i).map (Jd.be n)) (hc : c = Jd.be n i := by rfl) : xs ++ [c] = pre ++ (List.range (i + 1)).map (Jd.be n) := by
  rw [List.range_succ, List.map_append, List.map_cons, List.map_nil, ← List.append_assoc, ← hc, ← h]
set_option maxHeartbeats 8000000 in
set_option maxRecDepth 100000 in
theorem Jd.calls (k : Nat) (a0 : ByteArray) (r : ByteArray) (w : World) (h : Jd.f k a0 = some r) :
    Calls Tryz.prog 93 #[.string a0] w fun e w' => e = .returned (.string r) ∧ Below w.heap.size w w' := by
  unfold Jd.f at h
  have hn : a0.size ≤ 140737488355000 := by
    by_cases hh : a0.size ≤ 140737488355000
    · exact hh
    · rw [if_neg hh] at h; cases h
  rw [if_pos hn] at h
  have HRr := Aside0.mk (Option.some.inj h)
  have HN := Aside0.mk hn
  obtain ⟨i0, hi, hz0, hz1, hz2⟩ := info_parts (show (Tryz.prog.info? 5).map (fun i => (i.zero, i.size, i.bytes)) = some (some (.int .u8 0), 1, 1) by kernel_rfl)
  have hu : IntKind.u64.wrap (a0.size : Int) = (a0.size : Int) := by simp only [IntKind.wrap, IntKind.bits, IntKind.signed]; simp; omega
  have hu8 : IntKind.u64.wrap (8 * (a0.size : Int)) = 8 * (a0.size : Int) := by simp only [IntKind.wrap, IntKind.bits, IntKind.signed]; simp; omega
  have hz : Jd.zs a0.size < 64 := by unfold Jd.zs; omega
  clear h hn
  go_enter Tryz.func93, Tryz.ntmps93
  go_wp2
  go_loopg [4] (Jd.zs a0.size) (fun kq v4 w' => ∃ x : Int, v4 = .int .i64 x ∧ Aside0 (0 ≤ x ∧ x + (kq : Int) = (Jd.zs a0.size : Int)) ∧ Aside0 (Below w.heap.size w w'))
  case atStart => exact ⟨0, rfl, ⟨by omega⟩, ⟨Below.refl _ _⟩⟩
  case round =>
    obtain ⟨x, rfl, HP, HB⟩ := hrel
    have hx := HP.out
    have hx0 : 0 ≤ x := hx.1
    have hx1 : x ≤ 63 := by omega
    have hn1 : (a0.size : Int) ≤ 140737488355000 := by have := HN.out; omega
    have ht := Jd.test a0.size HN.out x hx.1 (by omega)
    cases gk with
    | zero =>
      have hc := ht.2 (by omega)
      obtain rfl : x = (Jd.zs a0.size : Int) := by omega
      clear ht hx HP
      go_wp2_with (first | ((with_reducible refine gate_dst (N := 22) rfl ?_); refine convM_event (P := Tryz.prog) rfl (N := 22) rfl 9 68 5 _ rfl a0 rfl w.heap.size (below_size HB.out) Tryz.underlying9 Tryz.underlying68 Tryz.underlying5 (by have := HN.out; omega) ?_; intro v1 w1 hv hb; have HM := Aside0.mk hv; have n0_ := Aside0.mk (below_step HB.out hb); clear HB hv hb; have HB := n0_; clear n0_) | ((with_reducible refine gate_dst (N := 23) rfl ?_); refine Kd.event_run (w1 := w1.alloc (.cells (encs (Value.int .u8) [128]).toArray 5)) (v := .slice (some ⟨w1.heap.size, 0, none⟩) 1 1) ?hg ?hr ?_; (case hg => rfl); (case hr => first | (go_simp; done) | (go_simp; rfl)); have HC := Aside0.mk (lit_cells w1 (128) 5); have hbA := below_alloc (Below.refl w1.heap.size w1) (.cells (encs (Value.int .u8) [128]).toArray 5); have m0_ := Aside0.mk (HM.out.below hbA); have n0_ := Aside0.mk (below_step HB.out hbA); clear HM HB hbA; have HM := m0_; have HB := n0_; clear m0_ n0_; obtain ⟨w2, hw_⟩ : ∃ z_, z_ = w1.alloc (.cells (encs (Value.int .u8) [128]).toArray 5) := ⟨_, rfl⟩; rw [← hw_] at HM HB HC; rw [← hw_]; clear hw_) | ((with_reducible refine gate_dst (N := 24) rfl ?_); refine appendM_event (P := Tryz.prog) (base := w.heap.size) (w0 := w) rfl (N := 24) rfl _ _ 68 68 5 i0 rfl rfl Tryz.underlying68 hi hz0 hz1 hz2 rfl HM.out (below_size HB.out) HB.out ⟨w1.heap.size, 0, none⟩ 1 [128] 1 rfl rfl HC.out (by have := HN.out; simp [bytesOf_length] <;> omega) ?_; intro v3 w3 hv hb; have m0_ := Aside0.mk hv; have n0_ := Aside0.mk hb; clear HM HB HC hv hb; have HM := m0_; have HB := n0_; clear m0_ n0_) | ((with_reducible refine gate_dst (N := 27) rfl ?_); refine appendZ_event (P := Tryz.prog) (base := w.heap.size) (w0 := w) rfl (N := 27) rfl _ _ 68 3 68 5 i0 rfl rfl Tryz.underlying68 Tryz.underlying3 hi hz0 hz1 hz2 rfl HM.out (below_size HB.out) HB.out .i64 (Jd.zs a0.size) rfl (by have := HN.out; simp [bytesOf_length] <;> omega) ?_; intro v4_ w4 hv hb; have m0_ := Aside0.mk hv; have n0_ := Aside0.mk hb; clear HM HB hv hb; have HM := m0_; have HB := n0_; clear m0_ n0_))
      go_loopg [5, 6] 8 (fun kq v5 v6 w' => ∃ (i : Nat) (xs : List Int), v6 = .int .i64 i ∧ Aside0 (i + kq = 8) ∧ Aside0 (xs = ((bytesOf a0 ++ [128]) ++ List.replicate (Jd.zs a0.size) 0) ++ (List.range i).map (Jd.be (8 * (a0.size : Int)))) ∧ Aside0 (OwnM w' w.heap.size 5 v5 xs) ∧ Aside0 (Below w.heap.size w w'))
      case atStart => exact ⟨0, _, rfl, ⟨rfl⟩, ⟨by rw [List.range_zero, List.map_nil, List.append_nil]⟩, ⟨HM.out⟩, ⟨HB.out⟩⟩
      case round =>
        obtain ⟨i, xs, rfl, HP, HX, HM, HB⟩ := hrel
        have hxl : xs.length ≤ 140737488355200 := by have := HN.out; rw [HX.out]; simp [bytesOf_length] <;> (have := HP.out; omega)
        have HXL := Aside0.mk hxl
        clear hxl
        cases gk with
        | zero =>
          obtain rfl : i = 8 := by have := HP.out; omega
          obtain ⟨g, cap, rfl, hg, hC⟩ := HM.out.reads
          have hconv := Kd.C_string (P := Tryz.prog) Tryz.underlying68 Tryz.underlying5 Tryz.underlying9 (c := cap) hC
          go_wp2
          go_ret
          exact ⟨congrArg (fun z_ => Ending.returned (Value.string z_)) ((congrArg strOfNums HX.out).trans HRr.out), HB.out⟩
        | succ k1 =>
          have hi7 : i = 0 ∨ i = 1 ∨ i = 2 ∨ i = 3 ∨ i = 4 ∨ i = 5 ∨ i = 6 ∨ i = 7 := by have := HP.out; omega
          have hk := HP.out
          rcases hi7 with rfl | rfl | rfl | rfl | rfl | rfl | rfl | rfl
          · go_wp2_with (first | ((with_reducible refine gate_dst (N := 42) rfl ?_); refine Kd.event_run (w1 := wr.alloc (.cells (encs (Value.int .u8) [(8 * (a0.size : Int)) / 72057594037927936 % 256]).toArray 5)) (v := .slice (some ⟨wr.heap.size, 0, none⟩) 1 1) ?hg ?hr ?_; (case hg => rfl); (case hr => first | (go_simp; done) | (go_simp; rfl)); have HC := Aside0.mk (lit_cells wr ((8 * (a0.size : Int)) / 72057594037927936 % 256) 5); have hbA := below_alloc (Below.refl wr.heap.size wr) (.cells (encs (Value.int .u8) [(8 * (a0.size : Int)) / 72057594037927936 % 256]).toArray 5); have m0_ := Aside0.mk (HM.out.below hbA); have n0_ := Aside0.mk (below_step HB.out hbA); clear HM HB hbA; have HM := m0_; have HB := n0_; clear m0_ n0_; obtain ⟨w5, hw_⟩ : ∃ z_, z_ = wr.alloc (.cells (encs (Value.int .u8) [(8 * (a0.size : Int)) / 72057594037927936 % 256]).toArray 5) := ⟨_, rfl⟩; rw [← hw_] at HM HB HC; rw [← hw_]; clear hw_) | ((with_reducible refine gate_dst (N := 43) rfl ?_); refine appendM_event (P := Tryz.prog) (base := w.heap.size) (w0 := w) rfl (N := 43) rfl _ _ 68 68 5 i0 rfl rfl Tryz.underlying68 hi hz0 hz1 hz2 rfl HM.out (below_size HB.out) HB.out ⟨wr.heap.size, 0, none⟩ 1 [(8 * (a0.size : Int)) / 72057594037927936 % 256] 1 rfl rfl HC.out (by have := HXL.out; simp <;> omega) ?_; intro v6_ w6 hv hb; have m0_ := Aside0.mk hv; have n0_ := Aside0.mk hb; clear HM HB HC hv hb; have HM := m0_; have HB := n0_; clear m0_ n0_))
            go_roundg k1
            case measure => omega
            case rel => exact ⟨1, _, rfl, ⟨by omega⟩, ⟨Jd.next 0 _ HX.out⟩, ⟨HM.out⟩, ⟨HB.out⟩⟩
          · go_wp2_with (first | ((with_reducible refine gate_dst (N := 42) rfl ?_); refine Kd.event_run (w1 := wr.alloc (.cells (encs (Value.int .u8) [(8 * (a0.size : Int)) / 281474976710656 % 256]).toArray 5)) (v := .slice (some ⟨wr.heap.size, 0, none⟩) 1 1) ?hg ?hr ?_; (case hg => rfl); (case hr => first | (go_simp; done) | (go_simp; rfl)); have HC := Aside0.mk (lit_cells wr ((8 * (a0.size : Int)) / 281474976710656 % 256) 5); have hbA := below_alloc (Below.refl wr.heap.size wr) (.cells (encs (Value.int .u8) [(8 * (a0.size : Int)) / 281474976710656 % 256]).toArray 5); have m0_ := Aside0.mk (HM.out.below hbA); have n0_ := Aside0.mk (below_step HB.out hbA); clear HM HB hbA; have HM := m0_; have HB := n0_; clear m0_ n0_; obtain ⟨w5, hw_⟩ : ∃ z_, z_ = wr.alloc (.cells (encs (Value.int .u8) [(8 * (a0.size : Int)) / 281474976710656 % 256]).toArray 5) := ⟨_, rfl⟩; rw [← hw_] at HM HB HC; rw [← hw_]; clear hw_) | ((with_reducible refine gate_dst (N := 43) rfl ?_); refine appendM_event (P := Tryz.prog) (base := w.heap.size) (w0 := w) rfl (N := 43) rfl _ _ 68 68 5 i0 rfl rfl Tryz.underlying68 hi hz0 hz1 hz2 rfl HM.out (below_size HB.out) HB.out ⟨wr.heap.size, 0, none⟩ 1 [(8 * (a0.size : Int)) / 281474976710656 % 256] 1 rfl rfl HC.out (by have := HXL.out; simp <;> omega) ?_; intro v6_ w6 hv hb; have m0_ := Aside0.mk hv; have n0_ := Aside0.mk hb; clear HM HB HC hv hb; have HM := m0_; have HB := n0_; clear m0_ n0_))
            go_roundg k1
            case measure => omega
            case rel => exact ⟨2, _, rfl, ⟨by omega⟩, ⟨Jd.next 1 _ HX.out⟩, ⟨HM.out⟩, ⟨HB.out⟩⟩
          · go_wp2_with (first | ((with_reducible refine gate_dst (N := 42) rfl ?_); refine Kd.event_run (w1 := wr.alloc (.cells (encs (Value.int .u8) [(8 * (a0.size : Int)) / 1099511627776 % 256]).toArray 5)) (v := .slice (some ⟨wr.heap.size, 0, none⟩) 1 1) ?hg ?hr ?_; (case hg => rfl); (case hr => first | (go_simp; done) | (go_simp; rfl)); have HC := Aside0.mk (lit_cells wr ((8 * (a0.size : Int)) / 1099511627776 % 256) 5); have hbA := below_alloc (Below.refl wr.heap.size wr) (.cells (encs (Value.int .u8) [(8 * (a0.size : Int)) / 1099511627776 % 256]).toArray 5); have m0_ := Aside0.mk (HM.out.below hbA); have n0_ := Aside0.mk (below_step HB.out hbA); clear HM HB hbA; have HM := m0_; have HB := n0_; clear m0_ n0_; obtain ⟨w5, hw_⟩ : ∃ z_, z_ = wr.alloc (.cells (encs (Value.int .u8) [(8 * (a0.size : Int)) / 1099511627776 % 256]).toArray 5) := ⟨_, rfl⟩; rw [← hw_] at HM HB HC; rw [← hw_]; clear hw_) | ((with_reducible refine gate_dst (N := 43) rfl ?_); refine appendM_event (P := Tryz.prog) (base := w.heap.size) (w0 := w) rfl (N := 43) rfl _ _ 68 68 5 i0 rfl rfl Tryz.underlying68 hi hz0 hz1 hz2 rfl HM.out (below_size HB.out) HB.out ⟨wr.heap.size, 0, none⟩ 1 [(8 * (a0.size : Int)) / 1099511627776 % 256] 1 rfl rfl HC.out (by have := HXL.out; simp <;> omega) ?_; intro v6_ w6 hv hb; have m0_ := Aside0.mk hv; have n0_ := Aside0.mk hb; clear HM HB HC hv hb; have HM := m0_; have HB := n0_; clear m0_ n0_))
            go_roundg k1
            case measure => omega
            case rel => exact ⟨3, _, rfl, ⟨by omega⟩, ⟨Jd.next 2 _ HX.out⟩, ⟨HM.out⟩, ⟨HB.out⟩⟩
          · go_wp2_with (first | ((with_reducible refine gate_dst (N := 42) rfl ?_); refine Kd.event_run (w1 := wr.alloc (.cells (encs (Value.int .u8) [(8 * (a0.size : Int)) / 4294967296 % 256]).toArray 5)) (v := .slice (some ⟨wr.heap.size, 0, none⟩) 1 1) ?hg ?hr ?_; (case hg => rfl); (case hr => first | (go_simp; done) | (go_simp; rfl)); have HC := Aside0.mk (lit_cells wr ((8 * (a0.size : Int)) / 4294967296 % 256) 5); have hbA := below_alloc (Below.refl wr.heap.size wr) (.cells (encs (Value.int .u8) [(8 * (a0.size : Int)) / 4294967296 % 256]).toArray 5); have m0_ := Aside0.mk (HM.out.below hbA); have n0_ := Aside0.mk (below_step HB.out hbA); clear HM HB hbA; have HM := m0_; have HB := n0_; clear m0_ n0_; obtain ⟨w5, hw_⟩ : ∃ z_, z_ = wr.alloc (.cells (encs (Value.int .u8) [(8 * (a0.size : Int)) / 4294967296 % 256]).toArray 5) := ⟨_, rfl⟩; rw [← hw_] at HM HB HC; rw [← hw_]; clear hw_) | ((with_reducible refine gate_dst (N := 43) rfl ?_); refine appendM_event (P := Tryz.prog) (base := w.heap.size) (w0 := w) rfl (N := 43) rfl _ _ 68 68 5 i0 rfl rfl Tryz.underlying68 hi hz0 hz1 hz2 rfl HM.out (below_size HB.out) HB.out ⟨wr.heap.size, 0, none⟩ 1 [(8 * (a0.size : Int)) / 4294967296 % 256] 1 rfl rfl HC.out (by have := HXL.out; simp <;> omega) ?_; intro v6_ w6 hv hb; have m0_ := Aside0.mk hv; have n0_ := Aside0.mk hb; clear HM HB HC hv hb; have HM := m0_; have HB := n0_; clear m0_ n0_))
            go_roundg k1
            case measure => omega
            case rel => exact ⟨4, _, rfl, ⟨by omega⟩, ⟨Jd.next 3 _ HX.out⟩, ⟨HM.out⟩, ⟨HB.out⟩⟩
          · go_wp2_with (first | ((with_reducible refine gate_dst (N := 42) rfl ?_); refine Kd.event_run (w1 := wr.alloc (.cells (encs (Value.int .u8) [(8 * (a0.size : Int)) / 16777216 % 256]).toArray 5)) (v := .slice (some ⟨wr.heap.size, 0, none⟩) 1 1) ?hg ?hr ?_; (case hg => rfl); (case hr => first | (go_simp; done) | (go_simp; rfl)); have HC := Aside0.mk (lit_cells wr ((8 * (a0.size : Int)) / 16777216 % 256) 5); have hbA := below_alloc (Below.refl wr.heap.size wr) (.cells (encs (Value.int .u8) [(8 * (a0.size : Int)) / 16777216 % 256]).toArray 5); have m0_ := Aside0.mk (HM.out.below hbA); have n0_ := Aside0.mk (below_step HB.out hbA); clear HM HB hbA; have HM := m0_; have HB := n0_; clear m0_ n0_; obtain ⟨w5, hw_⟩ : ∃ z_, z_ = wr.alloc (.cells (encs (Value.int .u8) [(8 * (a0.size : Int)) / 16777216 % 256]).toArray 5) := ⟨_, rfl⟩; rw [← hw_] at HM HB HC; rw [← hw_]; clear hw_) | ((with_reducible refine gate_dst (N := 43) rfl ?_); refine appendM_event (P := Tryz.prog) (base := w.heap.size) (w0 := w) rfl (N := 43) rfl _ _ 68 68 5 i0 rfl rfl Tryz.underlying68 hi hz0 hz1 hz2 rfl HM.out (below_size HB.out) HB.out ⟨wr.heap.size, 0, none⟩ 1 [(8 * (a0.size : Int)) / 16777216 % 256] 1 rfl rfl HC.out (by have := HXL.out; simp <;> omega) ?_; intro v6_ w6 hv hb; have m0_ := Aside0.mk hv; have n0_ := Aside0.mk hb; clear HM HB HC hv hb; have HM := m0_; have HB := n0_; clear m0_ n0_))
            go_roundg k1
            case measure => omega
            case rel => exact ⟨5, _, rfl, ⟨by omega⟩, ⟨Jd.next 4 _ HX.out⟩, ⟨HM.out⟩, ⟨HB.out⟩⟩
          · go_wp2_with (first | ((with_reducible refine gate_dst (N := 42) rfl ?_); refine Kd.event_run (w1 := wr.alloc (.cells (encs (Value.int .u8) [(8 * (a0.size : Int)) / 65536 % 256]).toArray 5)) (v := .slice (some ⟨wr.heap.size, 0, none⟩) 1 1) ?hg ?hr ?_; (case hg => rfl); (case hr => first | (go_simp; done) | (go_simp; rfl)); have HC := Aside0.mk (lit_cells wr ((8 * (a0.size : Int)) / 65536 % 256) 5); have hbA := below_alloc (Below.refl wr.heap.size wr) (.cells (encs (Value.int .u8) [(8 * (a0.size : Int)) / 65536 % 256]).toArray 5); have m0_ := Aside0.mk (HM.out.below hbA); have n0_ := Aside0.mk (below_step HB.out hbA); clear HM HB hbA; have HM := m0_; have HB := n0_; clear m0_ n0_; obtain ⟨w5, hw_⟩ : ∃ z_, z_ = wr.alloc (.cells (encs (Value.int .u8) [(8 * (a0.size : Int)) / 65536 % 256]).toArray 5) := ⟨_, rfl⟩; rw [← hw_] at HM HB HC; rw [← hw_]; clear hw_) | ((with_reducible refine gate_dst (N := 43) rfl ?_); refine appendM_event (P := Tryz.prog) (base := w.heap.size) (w0 := w) rfl (N := 43) rfl _ _ 68 68 5 i0 rfl rfl Tryz.underlying68 hi hz0 hz1 hz2 rfl HM.out (below_size HB.out) HB.out ⟨wr.heap.size, 0, none⟩ 1 [(8 * (a0.size : Int)) / 65536 % 256] 1 rfl rfl HC.out (by have := HXL.out; simp <;> omega) ?_; intro v6_ w6 hv hb; have m0_ := Aside0.mk hv; have n0_ := Aside0.mk hb; clear HM HB HC hv hb; have HM := m0_; have HB := n0_; clear m0_ n0_))
            go_roundg k1
            case measure => omega
            case rel => exact ⟨6, _, rfl, ⟨by omega⟩, ⟨Jd.next 5 _ HX.out⟩, ⟨HM.out⟩, ⟨HB.out⟩⟩
          · go_wp2_with (first | ((with_reducible refine gate_dst (N := 42) rfl ?_); refine Kd.event_run (w1 := wr.alloc (.cells (encs (Value.int .u8) [(8 * (a0.size : Int)) / 256 % 256]).toArray 5)) (v := .slice (some ⟨wr.heap.size, 0, none⟩) 1 1) ?hg ?hr ?_; (case hg => rfl); (case hr => first | (go_simp; done) | (go_simp; rfl)); have HC := Aside0.mk (lit_cells wr ((8 * (a0.size : Int)) / 256 % 256) 5); have hbA := below_alloc (Below.refl wr.heap.size wr) (.cells (encs (Value.int .u8) [(8 * (a0.size : Int)) / 256 % 256]).toArray 5); have m0_ := Aside0.mk (HM.out.below hbA); have n0_ := Aside0.mk (below_step HB.out hbA); clear HM HB hbA; have HM := m0_; have HB := n0_; clear m0_ n0_; obtain ⟨w5, hw_⟩ : ∃ z_, z_ = wr.alloc (.cells (encs (Value.int .u8) [(8 * (a0.size : Int)) / 256 % 256]).toArray 5) := ⟨_, rfl⟩; rw [← hw_] at HM HB HC; rw [← hw_]; clear hw_) | ((with_reducible refine gate_dst (N := 43) rfl ?_); refine appendM_event (P := Tryz.prog) (base := w.heap.size) (w0 := w) rfl (N := 43) rfl _ _ 68 68 5 i0 rfl rfl Tryz.underlying68 hi hz0 hz1 hz2 rfl HM.out (below_size HB.out) HB.out ⟨wr.heap.size, 0, none⟩ 1 [(8 * (a0.size : Int)) / 256 % 256] 1 rfl rfl HC.out (by have := HXL.out; simp <;> omega) ?_; intro v6_ w6 hv hb; have m0_ := Aside0.mk hv; have n0_ := Aside0.mk hb; clear HM HB HC hv hb; have HM := m0_; have HB := n0_; clear m0_ n0_))
            go_roundg k1
            case measure => omega
            case rel => exact ⟨7, _, rfl, ⟨by omega⟩, ⟨Jd.next 6 _ HX.out⟩, ⟨HM.out⟩, ⟨HB.out⟩⟩
          · go_wp2_with (first | ((with_reducible refine gate_dst (N := 42) rfl ?_); refine Kd.event_run (w1 := wr.alloc (.cells (encs (Value.int .u8) [(8 * (a0.size : Int)) / 1 % 256]).toArray 5)) (v := .slice (some ⟨wr.heap.size, 0, none⟩) 1 1) ?hg ?hr ?_; (case hg => rfl); (case hr => first | (go_simp; done) | (go_simp; rfl)); have HC := Aside0.mk (lit_cells wr ((8 * (a0.size : Int)) / 1 % 256) 5); have hbA := below_alloc (Below.refl wr.heap.size wr) (.cells (encs (Value.int .u8) [(8 * (a0.size : Int)) / 1 % 256]).toArray 5); have m0_ := Aside0.mk (HM.out.below hbA); have n0_ := Aside0.mk (below_step HB.out hbA); clear HM HB hbA; have HM := m0_; have HB := n0_; clear m0_ n0_; obtain ⟨w5, hw_⟩ : ∃ z_, z_ = wr.alloc (.cells (encs (Value.int .u8) [(8 * (a0.size : Int)) / 1 % 256]).toArray 5) := ⟨_, rfl⟩; rw [← hw_] at HM HB HC; rw [← hw_]; clear hw_) | ((with_reducible refine gate_dst (N := 43) rfl ?_); refine appendM_event (P := Tryz.prog) (base := w.heap.size) (w0 := w) rfl (N := 43) rfl _ _ 68 68 5 i0 rfl rfl Tryz.underlying68 hi hz0 hz1 hz2 rfl HM.out (below_size HB.out) HB.out ⟨wr.heap.size, 0, none⟩ 1 [(8 * (a0.size : Int)) / 1 % 256] 1 rfl rfl HC.out (by have := HXL.out; simp <;> omega) ?_; intro v6_ w6 hv hb; have m0_ := Aside0.mk hv; have n0_ := Aside0.mk hb; clear HM HB HC hv hb; have HM := m0_; have HB := n0_; clear m0_ n0_))
            go_roundg k1
            case measure => omega
            case rel => exact ⟨8, _, rfl, ⟨by omega⟩, ⟨Jd.next 7 _ HX.out⟩, ⟨HM.out⟩, ⟨HB.out⟩⟩
    | succ k1 =>
      have hc : (((a0.size : Int) + 1 + x + 8) % 64 != 0) = true := bne_iff_ne.mpr (ht.1 (by omega))
      clear ht hx
      go_wp2
      go_roundg k1
      case measure => omega
      case rel => exact ⟨x + 1, rfl, ⟨by have := HP.out; omega⟩, ⟨HB.out⟩⟩

/-! ### Jv = palaverref02_turn: function 94 -/
def Jv.f (a0 : Int) (a1 : Int) : Option (Int) := if 0 ≤ a1 then (some (Go.bits .or .u32 (shr .u32 a0 a1) (shl .u32 a0 ((32 - a1) % 4294967296)))) else (none)
set_option maxHeartbeats 64000000 in
set_option maxRecDepth 100000 in
theorem Jv.calls (a0 : Int) (a1 : Int) (r : Int) (w : World) (h : Jv.f a0 a1 = some r) :
 Calls Tryz.prog 94 #[.int .u32 a0, .int .u32 a1] w fun e w' => e = .returned (.int .u32 r) ∧ Drawn0 w w' := by
 have H : (if 0 ≤ a1 then (some (Go.bits .or .u32 (shr .u32 a0 a1) (shl .u32 a0 ((32 - a1) % 4294967296)))) else (none)) = some r := h
 clear h
 revert H; refine ne_ fun c3 c3b0 c3b1 H => ?_
 clear c3
 generalize hji4 : (shr .u32 a0 a1) = ji4 at H
 have hji4_ : (a0 / 2 ^ min a1.toNat 32) = ji4 := hji4
 have hji4z : a1 ≤ 32 → (a0 / 2 ^ a1.toNat) = ji4 := shr_small hji4
 generalize hji5 : (shl .u32 a0 ((32 - a1) % 4294967296)) = ji5 at H
 have hji5_ : (IntKind.u32.wrap (a0 * 2 ^ min ((32 - a1) % 4294967296).toNat 32)) = ji5 := hji5
 have hji5z : ((32 - a1) % 4294967296) ≤ 32 → (IntKind.u32.wrap (a0 * 2 ^ ((32 - a1) % 4294967296).toNat)) = ji5 := shl_small hji5
 (have hji5n : (0 ≤ ((32 - a1) % 4294967296)) = True := eq_true (by omega))
 obtain rfl := Option.some.inj H
 go_enter Tryz.func94, Tryz.ntmps94
 go_wp2
 go_ret
 exact ⟨by first | rfl | (simp; done) | (simp only [← hji4, ← hji5] <;> (first | rfl | simp)) | (simp [*]; done) | exact congrArg Value.bool (nonempty_l _) | (refine congrArg (Value.int _) ?_; first | omega | (unfold wrap64; omega)), by repeat (first | exact Drawn0.refl _ | apply Drawn0.step)⟩

end Go.Proofs.YtdodghifojkclaaGreatDoor.PP
