-- WRITTEN BY a program of this work (wip/ownprint.py), for this seat
import Derived.Test.YtjjdfglfjabkjaaPPx0
import Derived.Test.YtjjdfglfjabkjaaPPx1
import Derived.Test.YtjjdfglfjabkjaaPPx2
import Derived.Test.YtjjdfglfjabkjaaPPx3
namespace Go.Proofs.Ytjjdfglfjabkjaa.PP
open Go.RowKit Go.Proofs.YtjjdfglfjabkjaaW.PrintWords Go.Proofs.YtjjdfglfjabkjaaW.PrintLast Go.Proofs.YtjjdfglfjabkjaaW.PrintMore
attribute [local go_sem] max2_int min2_int max_two min_two max_three min_three max_four min_four   -- for this text's walks alone
set_option linter.unusedVariables false
set_option linter.unusedSimpArgs false

/-! ### palaverlaw01_OctetsReads: function 6 -/
mutual
def palaverlaw01_OctetsReads.j0 : Nat → ByteArray → List (S37) → Bool → Option (Bool)
  | 0, _, _, _ => none
  | k + 1, x0, x1, x19 => if x19 = true then ((palaverlaw01_awake.f k).bind fun t205 => (some t205)) else ((octets_Read.f x0).bind fun bt206 => (palaverlaw01_OctetsReads.l0 k x0 x1 false 0 bt206.1 bt206.2))
def palaverlaw01_OctetsReads.l0 : Nat → ByteArray → List (S37) → Bool → Int → ByteArray → Bool → Option (Bool)
  | 0, _, _, _, _, _, _ => none
  | k + 1, x0, x1, x6, x7, x209000, x209001 => if x7 < (x1.length : Int) then (if 0 ≤ x7 then (if ((rd_T37 x1 x7).f0) = 0 then ((octets_Reader_Byte.f k x209000 x209001).bind fun bt210 => ((palaverlaw01_read.f x0 1 x6).bind fun bt213 => ((palaverref01_Value.f k bt213.1).bind fun t216 => (palaverlaw01_OctetsReads.j2 k bt213.2.1 x1 bt213.2.2 x7 bt210.1 t216 bt210.2.1 bt210.2.2)))) else (if ((rd_T37 x1 x7).f0) = 1 then ((octets_Reader_Short.f k x209000 x209001).bind fun bt217 => ((palaverlaw01_read.f x0 2 x6).bind fun bt220 => ((palaverref01_Value.f k bt220.1).bind fun t223 => (palaverlaw01_OctetsReads.j2 k bt220.2.1 x1 bt220.2.2 x7 bt217.1 t223 bt217.2.1 bt217.2.2)))) else (if ((rd_T37 x1 x7).f0) = 2 then ((octets_Reader_Long.f k x209000 x209001).bind fun bt224 => ((palaverlaw01_read.f x0 4 x6).bind fun bt227 => ((palaverref01_Value.f k bt227.1).bind fun t230 => (palaverlaw01_OctetsReads.j2 k bt227.2.1 x1 bt227.2.2 x7 bt224.1 t230 bt224.2.1 bt224.2.2)))) else (if ((rd_T37 x1 x7).f0) = 3 then ((octets_Reader_Text.f k x209000 x209001).bind fun bt231 => ((palaverlaw01_read.f x0 2 x6).bind fun bt234 => ((palaverref01_Value.f k bt234.1).bind fun t237 => ((palaverlaw01_read.f bt234.2.1 t237 bt234.2.2).bind fun bt238 => (if bt231.1.toList = bt238.1.toList then (palaverlaw01_OctetsReads.j2 k bt238.2.1 x1 bt238.2.2 x7 0 0 bt231.2.1 bt231.2.2) else (some false)))))) else ((octets_Reader_Take.f k x209000 x209001 ((rd_T37 x1 x7).f1)).bind fun bt242 => ((palaverlaw01_read.f x0 ((rd_T37 x1 x7).f1) x6).bind fun bt246 => (if bt242.1.toList = bt246.1.toList then (palaverlaw01_OctetsReads.j2 k bt246.2.1 x1 bt246.2.2 x7 0 0 bt242.2.1 bt242.2.2) else (some false)))))))) else (none)) else (some true)
def palaverlaw01_OctetsReads.j2 : Nat → ByteArray → List (S37) → Bool → Int → Int → Int → ByteArray → Bool → Option (Bool)
  | 0, _, _, _, _, _, _, _, _ => none
  | k + 1, x0, x1, x6, x7, x10, x11, x209000, x209001 => if x6 = true then (palaverlaw01_OctetsReads.j3 k x0 x1 x6 x7 x10 x11 0 x209000 x209001) else (palaverlaw01_OctetsReads.j3 k x0 x1 x6 x7 x10 x11 (x0.size : Int) x209000 x209001)
def palaverlaw01_OctetsReads.j3 : Nat → ByteArray → List (S37) → Bool → Int → Int → Int → Int → ByteArray → Bool → Option (Bool)
  | 0, _, _, _, _, _, _, _, _, _ => none
  | k + 1, x0, x1, x6, x7, x10, x11, x12, x209000, x209001 => if x10 = x11 then ((octets_Reader_Good.f x209000 x209001).bind fun bt249 => (if (bt249.1 == x6) = true then (some false) else ((octets_Reader_Left.f bt249.2.1 bt249.2.2).bind fun bt252 => (if bt252.1 = x12 then ((octets_Reader_End.f bt252.2.1 bt252.2.2).bind fun bt255 => (if x6 = true then (if (bt255.1 != false) = true then (some false) else (palaverlaw01_OctetsReads.l0 k x0 x1 x6 (wrap64 (x7 + 1)) bt255.2.1 bt255.2.2)) else (if (bt255.1 != ((x0.size : Int) == 0)) = true then (some false) else (palaverlaw01_OctetsReads.l0 k x0 x1 x6 (wrap64 (x7 + 1)) bt255.2.1 bt255.2.2)))) else (some false))))) else (some false)
end
def palaverlaw01_OctetsReads.f (k : Nat) (a0 : ByteArray) (l1 : List (S37)) : Option (Bool) := if (l1.length : Int) > 200 then (palaverlaw01_OctetsReads.j0 k a0 l1 true) else ((palaverlaw01_awake.f k).bind fun t204 => (palaverlaw01_OctetsReads.j0 k a0 l1 (!t204)))
theorem palaverlaw01_OctetsReads.mono_l : ∀ k, (∀ y0 y1 y2, LeO (palaverlaw01_OctetsReads.j0 k y0 y1 y2) (palaverlaw01_OctetsReads.j0 (k + 1) y0 y1 y2)) ∧ (∀ y0 y1 y2 y3 y4 y5, LeO (palaverlaw01_OctetsReads.l0 k y0 y1 y2 y3 y4 y5) (palaverlaw01_OctetsReads.l0 (k + 1) y0 y1 y2 y3 y4 y5)) ∧ (∀ y0 y1 y2 y3 y4 y5 y6 y7, LeO (palaverlaw01_OctetsReads.j2 k y0 y1 y2 y3 y4 y5 y6 y7) (palaverlaw01_OctetsReads.j2 (k + 1) y0 y1 y2 y3 y4 y5 y6 y7)) ∧ (∀ y0 y1 y2 y3 y4 y5 y6 y7 y8, LeO (palaverlaw01_OctetsReads.j3 k y0 y1 y2 y3 y4 y5 y6 y7 y8) (palaverlaw01_OctetsReads.j3 (k + 1) y0 y1 y2 y3 y4 y5 y6 y7 y8))
  | 0 => ⟨fun _ _ _ r h => by simp [palaverlaw01_OctetsReads.j0] at h, fun _ _ _ _ _ _ r h => by simp [palaverlaw01_OctetsReads.l0] at h, fun _ _ _ _ _ _ _ _ r h => by simp [palaverlaw01_OctetsReads.j2] at h, fun _ _ _ _ _ _ _ _ _ r h => by simp [palaverlaw01_OctetsReads.j3] at h⟩
  | k + 1 => by
    obtain ⟨ih0, ih1, ih2, ih3⟩ := palaverlaw01_OctetsReads.mono_l k
    refine ⟨?_, ?_, ?_, ?_⟩
    · intro y0 y1 y2
      unfold palaverlaw01_OctetsReads.j0
      repeat' first
      | (with_reducible exact ih0 _ _ _)
      | (with_reducible exact ih1 _ _ _ _ _ _)
      | (with_reducible exact ih2 _ _ _ _ _ _ _ _)
      | (with_reducible exact ih3 _ _ _ _ _ _ _ _ _)
      | (with_reducible exact octets_Reader_Byte.mono _ _ _)
      | (with_reducible exact octets_Reader_Long.mono _ _ _)
      | (with_reducible exact octets_Reader_Short.mono _ _ _)
      | (with_reducible exact octets_Reader_Take.mono _ _ _ _)
      | (with_reducible exact octets_Reader_Text.mono _ _ _)
      | (with_reducible exact palaverlaw01_awake.mono _)
      | (with_reducible exact palaverref01_Value.mono _ _)
      | (with_reducible exact LeO.refl _)
      | (with_reducible exact LeO.none _)
      | (with_reducible refine LeO.ite ?_ ?_)
      | (with_reducible refine LeO.bind ?_ (fun _ => ?_))
      | exact ih0 _ _ _
      | exact ih1 _ _ _ _ _ _
      | exact ih2 _ _ _ _ _ _ _ _
      | exact ih3 _ _ _ _ _ _ _ _ _
      | exact octets_Reader_Byte.mono _ _ _
      | exact octets_Reader_Long.mono _ _ _
      | exact octets_Reader_Short.mono _ _ _
      | exact octets_Reader_Take.mono _ _ _ _
      | exact octets_Reader_Text.mono _ _ _
      | exact palaverlaw01_awake.mono _
      | exact palaverref01_Value.mono _ _
      | exact LeO.none _
      | refine LeO.ite ?_ ?_
      | refine LeO.bind ?_ (fun _ => ?_)
    · intro y0 y1 y2 y3 y4 y5
      unfold palaverlaw01_OctetsReads.l0
      repeat' first
      | (with_reducible exact ih0 _ _ _)
      | (with_reducible exact ih1 _ _ _ _ _ _)
      | (with_reducible exact ih2 _ _ _ _ _ _ _ _)
      | (with_reducible exact ih3 _ _ _ _ _ _ _ _ _)
      | (with_reducible exact octets_Reader_Byte.mono _ _ _)
      | (with_reducible exact octets_Reader_Long.mono _ _ _)
      | (with_reducible exact octets_Reader_Short.mono _ _ _)
      | (with_reducible exact octets_Reader_Take.mono _ _ _ _)
      | (with_reducible exact octets_Reader_Text.mono _ _ _)
      | (with_reducible exact palaverlaw01_awake.mono _)
      | (with_reducible exact palaverref01_Value.mono _ _)
      | (with_reducible exact LeO.refl _)
      | (with_reducible exact LeO.none _)
      | (with_reducible refine LeO.ite ?_ ?_)
      | (with_reducible refine LeO.bind ?_ (fun _ => ?_))
      | exact ih0 _ _ _
      | exact ih1 _ _ _ _ _ _
      | exact ih2 _ _ _ _ _ _ _ _
      | exact ih3 _ _ _ _ _ _ _ _ _
      | exact octets_Reader_Byte.mono _ _ _
      | exact octets_Reader_Long.mono _ _ _
      | exact octets_Reader_Short.mono _ _ _
      | exact octets_Reader_Take.mono _ _ _ _
      | exact octets_Reader_Text.mono _ _ _
      | exact palaverlaw01_awake.mono _
      | exact palaverref01_Value.mono _ _
      | exact LeO.none _
      | refine LeO.ite ?_ ?_
      | refine LeO.bind ?_ (fun _ => ?_)
    · intro y0 y1 y2 y3 y4 y5 y6 y7
      unfold palaverlaw01_OctetsReads.j2
      repeat' first
      | (with_reducible exact ih0 _ _ _)
      | (with_reducible exact ih1 _ _ _ _ _ _)
      | (with_reducible exact ih2 _ _ _ _ _ _ _ _)
      | (with_reducible exact ih3 _ _ _ _ _ _ _ _ _)
      | (with_reducible exact octets_Reader_Byte.mono _ _ _)
      | (with_reducible exact octets_Reader_Long.mono _ _ _)
      | (with_reducible exact octets_Reader_Short.mono _ _ _)
      | (with_reducible exact octets_Reader_Take.mono _ _ _ _)
      | (with_reducible exact octets_Reader_Text.mono _ _ _)
      | (with_reducible exact palaverlaw01_awake.mono _)
      | (with_reducible exact palaverref01_Value.mono _ _)
      | (with_reducible exact LeO.refl _)
      | (with_reducible exact LeO.none _)
      | (with_reducible refine LeO.ite ?_ ?_)
      | (with_reducible refine LeO.bind ?_ (fun _ => ?_))
      | exact ih0 _ _ _
      | exact ih1 _ _ _ _ _ _
      | exact ih2 _ _ _ _ _ _ _ _
      | exact ih3 _ _ _ _ _ _ _ _ _
      | exact octets_Reader_Byte.mono _ _ _
      | exact octets_Reader_Long.mono _ _ _
      | exact octets_Reader_Short.mono _ _ _
      | exact octets_Reader_Take.mono _ _ _ _
      | exact octets_Reader_Text.mono _ _ _
      | exact palaverlaw01_awake.mono _
      | exact palaverref01_Value.mono _ _
      | exact LeO.none _
      | refine LeO.ite ?_ ?_
      | refine LeO.bind ?_ (fun _ => ?_)
    · intro y0 y1 y2 y3 y4 y5 y6 y7 y8
      unfold palaverlaw01_OctetsReads.j3
      repeat' first
      | (with_reducible exact ih0 _ _ _)
      | (with_reducible exact ih1 _ _ _ _ _ _)
      | (with_reducible exact ih2 _ _ _ _ _ _ _ _)
      | (with_reducible exact ih3 _ _ _ _ _ _ _ _ _)
      | (with_reducible exact octets_Reader_Byte.mono _ _ _)
      | (with_reducible exact octets_Reader_Long.mono _ _ _)
      | (with_reducible exact octets_Reader_Short.mono _ _ _)
      | (with_reducible exact octets_Reader_Take.mono _ _ _ _)
      | (with_reducible exact octets_Reader_Text.mono _ _ _)
      | (with_reducible exact palaverlaw01_awake.mono _)
      | (with_reducible exact palaverref01_Value.mono _ _)
      | (with_reducible exact LeO.refl _)
      | (with_reducible exact LeO.none _)
      | (with_reducible refine LeO.ite ?_ ?_)
      | (with_reducible refine LeO.bind ?_ (fun _ => ?_))
      | exact ih0 _ _ _
      | exact ih1 _ _ _ _ _ _
      | exact ih2 _ _ _ _ _ _ _ _
      | exact ih3 _ _ _ _ _ _ _ _ _
      | exact octets_Reader_Byte.mono _ _ _
      | exact octets_Reader_Long.mono _ _ _
      | exact octets_Reader_Short.mono _ _ _
      | exact octets_Reader_Take.mono _ _ _ _
      | exact octets_Reader_Text.mono _ _ _
      | exact palaverlaw01_awake.mono _
      | exact palaverref01_Value.mono _ _
      | exact LeO.none _
      | refine LeO.ite ?_ ?_
      | refine LeO.bind ?_ (fun _ => ?_)
theorem palaverlaw01_OctetsReads.mono : ∀ a0 a1 k, LeO (palaverlaw01_OctetsReads.f k a0 a1) (palaverlaw01_OctetsReads.f (k + 1) a0 a1) := by
  intro a0 a1 k
  obtain ⟨ih0, ih1, ih2, ih3⟩ := palaverlaw01_OctetsReads.mono_l k
  unfold palaverlaw01_OctetsReads.f
  repeat' first
      | (with_reducible exact ih0 _ _ _)
      | (with_reducible exact ih1 _ _ _ _ _ _)
      | (with_reducible exact ih2 _ _ _ _ _ _ _ _)
      | (with_reducible exact ih3 _ _ _ _ _ _ _ _ _)
      | (with_reducible exact octets_Reader_Byte.mono _ _ _)
      | (with_reducible exact octets_Reader_Long.mono _ _ _)
      | (with_reducible exact octets_Reader_Short.mono _ _ _)
      | (with_reducible exact octets_Reader_Take.mono _ _ _ _)
      | (with_reducible exact octets_Reader_Text.mono _ _ _)
      | (with_reducible exact palaverlaw01_awake.mono _)
      | (with_reducible exact palaverref01_Value.mono _ _)
      | (with_reducible exact LeO.refl _)
      | (with_reducible exact LeO.none _)
      | (with_reducible refine LeO.ite ?_ ?_)
      | (with_reducible refine LeO.bind ?_ (fun _ => ?_))
      | exact ih0 _ _ _
      | exact ih1 _ _ _ _ _ _
      | exact ih2 _ _ _ _ _ _ _ _
      | exact ih3 _ _ _ _ _ _ _ _ _
      | exact octets_Reader_Byte.mono _ _ _
      | exact octets_Reader_Long.mono _ _ _
      | exact octets_Reader_Short.mono _ _ _
      | exact octets_Reader_Take.mono _ _ _ _
      | exact octets_Reader_Text.mono _ _ _
      | exact palaverlaw01_awake.mono _
      | exact palaverref01_Value.mono _ _
      | exact LeO.none _
      | refine LeO.ite ?_ ?_
      | refine LeO.bind ?_ (fun _ => ?_)
set_option maxHeartbeats 8000000 in
set_option maxRecDepth 100000 in
theorem palaverlaw01_OctetsReads.calls (k : Nat) (a0 : ByteArray) (A1 : Option Addr) (c1 : Nat) (l1 : List (S37)) (r : Bool) (w : World) (hr1 : Kd.C k37 w A1 l1.length l1) (hc1 : l1.length ≤ c1) (h : palaverlaw01_OctetsReads.f k a0 l1 = some r) :
    Calls Try.prog 6 #[.string a0, .slice A1 l1.length c1] w fun e w' => e = .returned (.bool r) ∧ Below w.heap.size w w' := by
  have HR1 := Aside0.mk hr1
  have HC1 := Aside0.mk hc1
  clear hr1 hc1
  have HB := Aside0.mk (Below.refl w.heap.size w)
  have H : (if (l1.length : Int) > 200 then (palaverlaw01_OctetsReads.j0 k a0 l1 true) else ((palaverlaw01_awake.f k).bind fun t204 => (palaverlaw01_OctetsReads.j0 k a0 l1 (!t204)))) = some r := h
  clear h
  have HC3 := Aside0.mk H
  clear H
  go_enter Try.func6, Try.ntmps6
  go_upto_region 1 with (fail)
  go_cut [19] (fun v19 wc => ∃ (kq : Nat) (x19_2 : Bool), v19 = .bool x19_2 ∧ Aside0 (palaverlaw01_OctetsReads.j0 kq a0 l1 x19_2 = some r) ∧ Aside0 (kq ≤ k) ∧ Aside0 (Below w.heap.size w wc))
  case first =>
    have H := HC3.out
    clear HC3
    by_cases c4 : (l1.length : Int) > 200
    · rw [if_pos c4] at H
      have c4b0 : decide (200 < (l1.length : Int)) = true := decide_eq_true c4
      have c4b1 : decide (200 < l1.length) = true := decide_eq_true (by omega)
      clear c4
      (first | rw [c4b0] | (simp only [i64_w, i32_w]; rw [c4b0]) | skip)
      have H' := Aside0.mk H
      clear H
      go_wp2
      go_meet
      case rel => exact ⟨_, (true), (by first | rfl | (simp; done) | (simp [*]; done)), H', ⟨by first | omega | exact Nat.le_refl _⟩, ⟨by repeat (first | (with_reducible first | exact HB.out | apply below_alloc | apply pw_below_drewN | apply below_drew1) | exact HB.out)⟩⟩
    · rw [if_neg c4] at H
      have c4b0 : decide (200 < (l1.length : Int)) = false := decide_eq_false c4
      have c4b1 : decide (200 < l1.length) = false := decide_eq_false (by omega)
      clear c4
      (first | rw [c4b0] | (simp only [i64_w, i32_w]; rw [c4b0]) | skip)
      replace H := Option.bind_eq_some_iff.mp H
      obtain ⟨t204, A50, H⟩ := H
      replace H : (palaverlaw01_OctetsReads.j0 k a0 l1 (!t204)) = some r := H
      have A5 := Aside0.mk A50
      clear A50
      have H' := Aside0.mk H
      clear H
      go_wp2_with (first | (go_at_call 11; (with_reducible refine (palaverlaw01_awake.calls k  t204 _ A5.out).mono ?_); rintro e w6 ⟨rfl, hb⟩; have n0_ := Aside0.mk (below_step (by repeat (first | (with_reducible first | exact HB.out | apply below_alloc | apply pw_below_drewN | apply below_drew1) | exact HB.out)) hb); clear HB; have HB := n0_; clear n0_; (try clear hb); (try clear hb2); (try clear hk); (try clear hi)))
      go_meet
      case rel => exact ⟨_, (!t204), (by first | rfl | (simp; done) | (simp [*]; done)), H', ⟨by first | omega | exact Nat.le_refl _⟩, ⟨by repeat (first | (with_reducible first | exact HB.out | apply below_alloc | apply pw_below_drewN | apply below_drew1) | exact HB.out)⟩⟩
  case rest =>
    clear HC3
    try clear c1
    try clear p2
    try clear c4
    try clear c4b0
    try clear c4b1
    try clear c6
    obtain ⟨kq, x19_2, rfl, HA, HJ2, HB⟩ := hcut
    cases kq with
    | zero => exact absurd HA.out (by simp [palaverlaw01_OctetsReads.j0])
    | succ kj2 =>
      have H := HA.out
      clear HA
      simp only [palaverlaw01_OctetsReads.j0] at H
      by_cases c7 : x19_2 = true
      · subst c7
        have H1 : ((palaverlaw01_awake.f kj2).bind fun t205 => (some t205)) = some r := by rw [if_pos rfl] at H; exact H
        clear H
        have H := H1
        clear H1
        replace H := Option.bind_eq_some_iff.mp H
        obtain ⟨t205, A80, H⟩ := H
        replace H : (some t205) = some r := H
        have A8 := Aside0.mk A80
        clear A80
        obtain rfl := Option.some.inj H
        go_wp2_with (first | ((with_reducible refine gate_callee (f := 11) rfl ?_); refine goesL_ (some 20) rfl rfl Try.func11 (by kernel_rfl) rfl #[] rfl (by (try simp only [List.map_toArray, List.map_cons, List.map_nil]); first | done | rfl | (simp only [List.length_drop, List.length_take]; rfl)) ?_; (with_reducible refine (palaverlaw01_awake.calls kj2  t205 _ A8.out).mono ?_); rintro e w9 ⟨rfl, hb⟩; refine ⟨_, rfl, ?_⟩; have n0_ := Aside0.mk (below_step (by repeat (first | (with_reducible first | exact HB.out | apply below_alloc | apply pw_below_drewN | apply below_drew1) | exact HB.out)) hb); clear HB; have HB := n0_; clear n0_; (try clear hb); (try clear hb2); (try clear hk); (try clear hi)))
        go_ret
        exact ⟨by first | rfl | (simp [errW_none, errW_some] <;> rfl) | (simp [*, errW_none, errW_some] <;> rfl), by repeat (first | (with_reducible first | exact HB.out | apply below_alloc | apply pw_below_drewN | apply below_drew1) | exact HB.out)⟩
      · replace c7 := Bool.eq_false_iff.mpr c7
        subst c7
        have H1 : ((octets_Read.f a0).bind fun bt206 => (palaverlaw01_OctetsReads.l0 kj2 a0 l1 false 0 bt206.1 bt206.2)) = some r := by rw [if_neg (show ¬ (false = true) by decide)] at H; exact H
        clear H
        have H := H1
        clear H1
        replace H := Option.bind_eq_some_iff.mp H
        obtain ⟨⟨t206, t207⟩, A100, H⟩ := H
        replace H : (palaverlaw01_OctetsReads.l0 kj2 a0 l1 false 0 t206 t207) = some r := H
        have A10 := Aside0.mk A100
        clear A100
        have H' := Aside0.mk H
        clear H
        go_wp2_with (first | ((with_reducible refine gate_callee (f := 16) rfl ?_); refine goesL_ (some 22) rfl rfl Try.func16 (by kernel_rfl) rfl #[.string a0] rfl (by (try simp only [List.map_toArray, List.map_cons, List.map_nil]); first | done | rfl | (simp only [List.length_drop, List.length_take]; rfl)) ?_; (with_reducible refine (octets_Read.calls a0 t206 t207 w _ ?side1 A10.out).mono ?_); (case side1 => repeat (first | (with_reducible first | exact HB.out | apply below_alloc | apply pw_below_drewN | apply below_drew1) | exact HB.out)); rintro e w11 ⟨g208, rfl, hi, hb, hb2⟩; refine ⟨_, rfl, ?_⟩; have n0_ := Aside0.mk (hb); have n1_ := Aside0.mk (hi); clear HB; have HB := n0_; have HI208 := n1_; clear n0_ n1_; (try clear hb); (try clear hb2); (try clear hk); (try clear hi)))
        go_loopg [0, 6, 7] kj2 (fun kq v0 v6 v7 w' => ∃ (x0_2 : ByteArray) (x6_2 : Bool) (x7_2 : Int) (x209000_2 : ByteArray) (x209001_2 : Bool), v0 = .string x0_2 ∧ v6 = .bool x6_2 ∧ v7 = .int .i64 x7_2 ∧ Aside0 (palaverlaw01_OctetsReads.l0 kq x0_2 l1 x6_2 x7_2 x209000_2 x209001_2 = some r) ∧ Aside0 (kq ≤ kj2) ∧ Aside0 (IsS48 w w' g208 x209000_2 x209001_2) ∧ Aside0 (Below w.heap.size w w'))
        case atStart => exact ⟨(a0), (false), (0), (t206), (t207), (by first | rfl | (simp; done) | (simp [*]; done)), (by first | rfl | (simp; done) | (simp [*]; done)), (by first | rfl | (simp; done) | (simp [*]; done)), H', ⟨Nat.le_refl _⟩, ⟨by repeat (first | (with_reducible first | exact HI208.out | apply IsS48.alloc | apply IsS48.drewN | apply IsS48.drew | apply IsS48.set_0 | apply IsS48.set_1) | exact HI208.out)⟩, ⟨by repeat (first | (with_reducible first | exact HB.out | apply below_alloc | apply pw_below_drewN | apply below_drew1 | refine below_set ?_ (IsS48.ge HI208.out)) | exact HB.out)⟩⟩
        case round =>
          clear H'
          try clear c1
          try clear p2
          try clear c4
          try clear c4b0
          try clear c4b1
          try clear c6
          try clear c7
          try clear c11
          try clear p2
          obtain ⟨x0_2, x6_2, x7_2, x209000_2, x209001_2, rfl, rfl, rfl, HA, HK2, HI208, HB⟩ := hrel
          cases gk with
          | zero => exact absurd HA.out (by simp [palaverlaw01_OctetsReads.l0])
          | succ k2 =>
            have H := HA.out
            clear HA
            simp only [palaverlaw01_OctetsReads.l0] at H
            by_cases c12 : x7_2 < (l1.length : Int)
            · rw [if_pos c12] at H
              have c12b0 : decide (x7_2 < (l1.length : Int)) = true := decide_eq_true c12
              clear c12
              by_cases c13 : 0 ≤ x7_2
              · rw [if_pos c13] at H
                have c13b0 : decide (0 ≤ x7_2) = true := decide_eq_true c13
                clear c13
                have HC14 := Aside0.mk H
                clear H
                have p209 : 0 ≤ (x7_2 : Int) := of_decide_eq_true (by first | (with_reducible assumption) | assumption)
                have q209 : x7_2 < (l1.length : Int) := of_decide_eq_true (by first | (with_reducible assumption) | assumption)
                obtain ⟨ad209, e209, hx209_0, hx209_1⟩ := at_T37 HR1.out x7_2 p209 q209
                cases e209
                replace hx209_0 := (HB.out.cell (World.block_lt_of_cell? w _ hx209_0)).trans hx209_0
                replace hx209_1 := (HB.out.cell (World.block_lt_of_cell? w _ hx209_1)).trans hx209_1
                replace p209 := eq_true p209
                replace q209 := eq_true q209
                go_upto_block 2 with (fail)
                go_cut [0, 6, 10, 11] (fun v0 v6 v10 v11 wc => ∃ (kq : Nat) (x0_13 : ByteArray) (x6_13 : Bool) (x10_13 : Int) (x11_13 : Int) (x209000_13 : ByteArray) (x209001_13 : Bool), v0 = .string x0_13 ∧ v6 = .bool x6_13 ∧ v10 = .int .i64 x10_13 ∧ v11 = .int .i64 x11_13 ∧ Aside0 (palaverlaw01_OctetsReads.j2 kq x0_13 l1 x6_13 x7_2 x10_13 x11_13 x209000_13 x209001_13 = some r) ∧ Aside0 (kq ≤ k2) ∧ Aside0 (IsS48 w wc g208 x209000_13 x209001_13) ∧ Aside0 (Below w.heap.size w wc))
                case first =>
                  have H := HC14.out
                  clear HC14
                  by_cases c15 : ((rd_T37 l1 x7_2).f0) = 0
                  · rw [if_pos c15] at H
                    have c15b0 : (((rd_T37 l1 x7_2).f0) == 0) = true := beq_iff_eq.mpr c15
                    have c15b1 : (((rd_T37 l1 x7_2).f0) != 0) = false := bne_eq_false_iff_eq.mpr c15
                    clear c15
                    (first | rw [c15b0] | (simp only [i64_w, i32_w]; rw [c15b0]) | skip)
                    replace H := Option.bind_eq_some_iff.mp H
                    obtain ⟨⟨t210, t211, t212⟩, A160, H⟩ := H
                    replace H : ((palaverlaw01_read.f x0_2 1 x6_2).bind fun bt213 => ((palaverref01_Value.f k2 bt213.1).bind fun t216 => (palaverlaw01_OctetsReads.j2 k2 bt213.2.1 l1 bt213.2.2 x7_2 t210 t216 t211 t212))) = some r := H
                    have A16 := Aside0.mk A160
                    clear A160
                    replace H := Option.bind_eq_some_iff.mp H
                    obtain ⟨⟨t213, t214, t215⟩, A170, H⟩ := H
                    replace H : ((palaverref01_Value.f k2 t213).bind fun t216 => (palaverlaw01_OctetsReads.j2 k2 t214 l1 t215 x7_2 t210 t216 t211 t212)) = some r := H
                    have A17 := Aside0.mk A170
                    clear A170
                    replace H := Option.bind_eq_some_iff.mp H
                    obtain ⟨t216, A180, H⟩ := H
                    replace H : (palaverlaw01_OctetsReads.j2 k2 t214 l1 t215 x7_2 t210 t216 t211 t212) = some r := H
                    have A18 := Aside0.mk A180
                    clear A180
                    have H' := Aside0.mk H
                    clear H
                    go_wp2_with (first | ((with_reducible refine gate_callee (f := 19) rfl ?_); refine goesL_ (some 59) rfl rfl Try.func19 (by kernel_rfl) rfl #[.pointer (some ⟨g208, 0, none⟩)] rfl (by (try simp only [List.map_toArray, List.map_cons, List.map_nil]); first | done | rfl | (simp only [List.length_drop, List.length_take]; rfl)) ?_; (with_reducible refine (octets_Reader_Byte.calls k2 g208 x209000_2 x209001_2 t210 t211 t212 w _ ?side1 ?side2 A16.out).mono ?_); (case side1 => repeat (first | (with_reducible first | exact HI208.out | apply IsS48.alloc | apply IsS48.drewN | apply IsS48.drew | apply IsS48.set_0 | apply IsS48.set_1) | exact HI208.out)); (case side2 => repeat (first | (with_reducible first | exact HB.out | apply below_alloc | apply pw_below_drewN | apply below_drew1 | refine below_set ?_ (IsS48.ge HI208.out)) | exact HB.out)); rintro e w19 ⟨rfl, hi, hb, hk⟩; refine ⟨_, rfl, ?_⟩; have n0_ := Aside0.mk (hb); have n1_ := Aside0.mk (hi); clear HB; clear HI208; have HB := n0_; have HI208 := n1_; clear n0_ n1_; (try clear hb); (try clear hb2); (try clear hk); (try clear hi)) | ((with_reducible refine gate_callee (f := 22) rfl ?_); refine goesL_ (some 63) rfl rfl Try.func22 (by kernel_rfl) rfl #[.string x0_2, .int .i64 1, .bool x6_2] rfl (by (try simp only [List.map_toArray, List.map_cons, List.map_nil]); first | done | rfl | (simp only [List.length_drop, List.length_take]; rfl)) ?_; (with_reducible refine (palaverlaw01_read.calls x0_2 1 x6_2 t213 t214 t215 _ A17.out).mono ?_); rintro e w' ⟨rfl, ⟨nd, rfl⟩⟩; refine ⟨_, rfl, ?_⟩) | ((with_reducible refine gate_callee (f := 23) rfl ?_); refine goesL_ (some 68) rfl rfl Try.func23 (by kernel_rfl) rfl #[.string t213] rfl (by (try simp only [List.map_toArray, List.map_cons, List.map_nil]); first | done | rfl | (simp only [List.length_drop, List.length_take]; rfl)) ?_; (with_reducible refine (palaverref01_Value.calls k2 t213 t216 _ A18.out).mono ?_); rintro e w' ⟨rfl, ⟨nd, rfl⟩⟩; refine ⟨_, rfl, ?_⟩))
                    go_meet
                    case rel => exact ⟨_, (t214), (t215), (t210), (t216), (t211), (t212), (by first | rfl | (simp; done) | (simp [*]; done)), (by first | rfl | (simp; done) | (simp [*]; done)), (by first | rfl | (simp; done) | (simp [*]; done)), (by first | rfl | (simp; done) | (simp [*]; done)), H', ⟨by have := HJ2.out; have := HK2.out; first | omega | exact Nat.le_refl _⟩, ⟨by repeat (first | (with_reducible first | exact HI208.out | apply IsS48.alloc | apply IsS48.drewN | apply IsS48.drew | apply IsS48.set_0 | apply IsS48.set_1) | exact HI208.out)⟩, ⟨by repeat (first | (with_reducible first | exact HB.out | apply below_alloc | apply pw_below_drewN | apply below_drew1 | refine below_set ?_ (IsS48.ge HI208.out)) | exact HB.out)⟩⟩
                  · rw [if_neg c15] at H
                    have c15b0 : (((rd_T37 l1 x7_2).f0) == 0) = false := beq_eq_false_iff_ne.mpr c15
                    have c15b1 : (((rd_T37 l1 x7_2).f0) != 0) = true := bne_iff_ne.mpr c15
                    (first | rw [c15b0] | (simp only [i64_w, i32_w]; rw [c15b0]) | skip)
                    by_cases c20 : ((rd_T37 l1 x7_2).f0) = 1
                    · rw [if_pos c20] at H
                      have c20b0 : (((rd_T37 l1 x7_2).f0) == 1) = true := beq_iff_eq.mpr c20
                      have c20b1 : (((rd_T37 l1 x7_2).f0) != 1) = false := bne_eq_false_iff_eq.mpr c20
                      clear c20
                      replace H := Option.bind_eq_some_iff.mp H
                      obtain ⟨⟨t217, t218, t219⟩, A210, H⟩ := H
                      replace H : ((palaverlaw01_read.f x0_2 2 x6_2).bind fun bt220 => ((palaverref01_Value.f k2 bt220.1).bind fun t223 => (palaverlaw01_OctetsReads.j2 k2 bt220.2.1 l1 bt220.2.2 x7_2 t217 t223 t218 t219))) = some r := H
                      have A21 := Aside0.mk A210
                      clear A210
                      replace H := Option.bind_eq_some_iff.mp H
                      obtain ⟨⟨t220, t221, t222⟩, A220, H⟩ := H
                      replace H : ((palaverref01_Value.f k2 t220).bind fun t223 => (palaverlaw01_OctetsReads.j2 k2 t221 l1 t222 x7_2 t217 t223 t218 t219)) = some r := H
                      have A22 := Aside0.mk A220
                      clear A220
                      replace H := Option.bind_eq_some_iff.mp H
                      obtain ⟨t223, A230, H⟩ := H
                      replace H : (palaverlaw01_OctetsReads.j2 k2 t221 l1 t222 x7_2 t217 t223 t218 t219) = some r := H
                      have A23 := Aside0.mk A230
                      clear A230
                      have H' := Aside0.mk H
                      clear H
                      go_wp2_with (first | ((with_reducible refine gate_callee (f := 24) rfl ?_); refine goesL_ (some 72) rfl rfl Try.func24 (by kernel_rfl) rfl #[.pointer (some ⟨g208, 0, none⟩)] rfl (by (try simp only [List.map_toArray, List.map_cons, List.map_nil]); first | done | rfl | (simp only [List.length_drop, List.length_take]; rfl)) ?_; (with_reducible refine (octets_Reader_Short.calls k2 g208 x209000_2 x209001_2 t217 t218 t219 w _ ?side1 ?side2 A21.out).mono ?_); (case side1 => repeat (first | (with_reducible first | exact HI208.out | apply IsS48.alloc | apply IsS48.drewN | apply IsS48.drew | apply IsS48.set_0 | apply IsS48.set_1) | exact HI208.out)); (case side2 => repeat (first | (with_reducible first | exact HB.out | apply below_alloc | apply pw_below_drewN | apply below_drew1 | refine below_set ?_ (IsS48.ge HI208.out)) | exact HB.out)); rintro e w24 ⟨rfl, hi, hb, hk⟩; refine ⟨_, rfl, ?_⟩; have n0_ := Aside0.mk (hb); have n1_ := Aside0.mk (hi); clear HB; clear HI208; have HB := n0_; have HI208 := n1_; clear n0_ n1_; (try clear hb); (try clear hb2); (try clear hk); (try clear hi)) | ((with_reducible refine gate_callee (f := 22) rfl ?_); refine goesL_ (some 76) rfl rfl Try.func22 (by kernel_rfl) rfl #[.string x0_2, .int .i64 2, .bool x6_2] rfl (by (try simp only [List.map_toArray, List.map_cons, List.map_nil]); first | done | rfl | (simp only [List.length_drop, List.length_take]; rfl)) ?_; (with_reducible refine (palaverlaw01_read.calls x0_2 2 x6_2 t220 t221 t222 _ A22.out).mono ?_); rintro e w' ⟨rfl, ⟨nd, rfl⟩⟩; refine ⟨_, rfl, ?_⟩) | ((with_reducible refine gate_callee (f := 23) rfl ?_); refine goesL_ (some 81) rfl rfl Try.func23 (by kernel_rfl) rfl #[.string t220] rfl (by (try simp only [List.map_toArray, List.map_cons, List.map_nil]); first | done | rfl | (simp only [List.length_drop, List.length_take]; rfl)) ?_; (with_reducible refine (palaverref01_Value.calls k2 t220 t223 _ A23.out).mono ?_); rintro e w' ⟨rfl, ⟨nd, rfl⟩⟩; refine ⟨_, rfl, ?_⟩))
                      go_meet
                      case rel => exact ⟨_, (t221), (t222), (t217), (t223), (t218), (t219), (by first | rfl | (simp; done) | (simp [*]; done)), (by first | rfl | (simp; done) | (simp [*]; done)), (by first | rfl | (simp; done) | (simp [*]; done)), (by first | rfl | (simp; done) | (simp [*]; done)), H', ⟨by have := HJ2.out; have := HK2.out; first | omega | exact Nat.le_refl _⟩, ⟨by repeat (first | (with_reducible first | exact HI208.out | apply IsS48.alloc | apply IsS48.drewN | apply IsS48.drew | apply IsS48.set_0 | apply IsS48.set_1) | exact HI208.out)⟩, ⟨by repeat (first | (with_reducible first | exact HB.out | apply below_alloc | apply pw_below_drewN | apply below_drew1 | refine below_set ?_ (IsS48.ge HI208.out)) | exact HB.out)⟩⟩
                    · rw [if_neg c20] at H
                      have c20b0 : (((rd_T37 l1 x7_2).f0) == 1) = false := beq_eq_false_iff_ne.mpr c20
                      have c20b1 : (((rd_T37 l1 x7_2).f0) != 1) = true := bne_iff_ne.mpr c20
                      by_cases c25 : ((rd_T37 l1 x7_2).f0) = 2
                      · rw [if_pos c25] at H
                        have c25b0 : (((rd_T37 l1 x7_2).f0) == 2) = true := beq_iff_eq.mpr c25
                        have c25b1 : (((rd_T37 l1 x7_2).f0) != 2) = false := bne_eq_false_iff_eq.mpr c25
                        clear c25
                        replace H := Option.bind_eq_some_iff.mp H
                        obtain ⟨⟨t224, t225, t226⟩, A260, H⟩ := H
                        replace H : ((palaverlaw01_read.f x0_2 4 x6_2).bind fun bt227 => ((palaverref01_Value.f k2 bt227.1).bind fun t230 => (palaverlaw01_OctetsReads.j2 k2 bt227.2.1 l1 bt227.2.2 x7_2 t224 t230 t225 t226))) = some r := H
                        have A26 := Aside0.mk A260
                        clear A260
                        replace H := Option.bind_eq_some_iff.mp H
                        obtain ⟨⟨t227, t228, t229⟩, A270, H⟩ := H
                        replace H : ((palaverref01_Value.f k2 t227).bind fun t230 => (palaverlaw01_OctetsReads.j2 k2 t228 l1 t229 x7_2 t224 t230 t225 t226)) = some r := H
                        have A27 := Aside0.mk A270
                        clear A270
                        replace H := Option.bind_eq_some_iff.mp H
                        obtain ⟨t230, A280, H⟩ := H
                        replace H : (palaverlaw01_OctetsReads.j2 k2 t228 l1 t229 x7_2 t224 t230 t225 t226) = some r := H
                        have A28 := Aside0.mk A280
                        clear A280
                        have H' := Aside0.mk H
                        clear H
                        go_wp2_with (first | ((with_reducible refine gate_callee (f := 25) rfl ?_); refine goesL_ (some 85) rfl rfl Try.func25 (by kernel_rfl) rfl #[.pointer (some ⟨g208, 0, none⟩)] rfl (by (try simp only [List.map_toArray, List.map_cons, List.map_nil]); first | done | rfl | (simp only [List.length_drop, List.length_take]; rfl)) ?_; (with_reducible refine (octets_Reader_Long.calls k2 g208 x209000_2 x209001_2 t224 t225 t226 w _ ?side1 ?side2 A26.out).mono ?_); (case side1 => repeat (first | (with_reducible first | exact HI208.out | apply IsS48.alloc | apply IsS48.drewN | apply IsS48.drew | apply IsS48.set_0 | apply IsS48.set_1) | exact HI208.out)); (case side2 => repeat (first | (with_reducible first | exact HB.out | apply below_alloc | apply pw_below_drewN | apply below_drew1 | refine below_set ?_ (IsS48.ge HI208.out)) | exact HB.out)); rintro e w29 ⟨rfl, hi, hb, hk⟩; refine ⟨_, rfl, ?_⟩; have n0_ := Aside0.mk (hb); have n1_ := Aside0.mk (hi); clear HB; clear HI208; have HB := n0_; have HI208 := n1_; clear n0_ n1_; (try clear hb); (try clear hb2); (try clear hk); (try clear hi)) | ((with_reducible refine gate_callee (f := 22) rfl ?_); refine goesL_ (some 89) rfl rfl Try.func22 (by kernel_rfl) rfl #[.string x0_2, .int .i64 4, .bool x6_2] rfl (by (try simp only [List.map_toArray, List.map_cons, List.map_nil]); first | done | rfl | (simp only [List.length_drop, List.length_take]; rfl)) ?_; (with_reducible refine (palaverlaw01_read.calls x0_2 4 x6_2 t227 t228 t229 _ A27.out).mono ?_); rintro e w' ⟨rfl, ⟨nd, rfl⟩⟩; refine ⟨_, rfl, ?_⟩) | ((with_reducible refine gate_callee (f := 23) rfl ?_); refine goesL_ (some 94) rfl rfl Try.func23 (by kernel_rfl) rfl #[.string t227] rfl (by (try simp only [List.map_toArray, List.map_cons, List.map_nil]); first | done | rfl | (simp only [List.length_drop, List.length_take]; rfl)) ?_; (with_reducible refine (palaverref01_Value.calls k2 t227 t230 _ A28.out).mono ?_); rintro e w' ⟨rfl, ⟨nd, rfl⟩⟩; refine ⟨_, rfl, ?_⟩))
                        go_meet
                        case rel => exact ⟨_, (t228), (t229), (t224), (t230), (t225), (t226), (by first | rfl | (simp; done) | (simp [*]; done)), (by first | rfl | (simp; done) | (simp [*]; done)), (by first | rfl | (simp; done) | (simp [*]; done)), (by first | rfl | (simp; done) | (simp [*]; done)), H', ⟨by have := HJ2.out; have := HK2.out; first | omega | exact Nat.le_refl _⟩, ⟨by repeat (first | (with_reducible first | exact HI208.out | apply IsS48.alloc | apply IsS48.drewN | apply IsS48.drew | apply IsS48.set_0 | apply IsS48.set_1) | exact HI208.out)⟩, ⟨by repeat (first | (with_reducible first | exact HB.out | apply below_alloc | apply pw_below_drewN | apply below_drew1 | refine below_set ?_ (IsS48.ge HI208.out)) | exact HB.out)⟩⟩
                      · rw [if_neg c25] at H
                        have c25b0 : (((rd_T37 l1 x7_2).f0) == 2) = false := beq_eq_false_iff_ne.mpr c25
                        have c25b1 : (((rd_T37 l1 x7_2).f0) != 2) = true := bne_iff_ne.mpr c25
                        by_cases c30 : ((rd_T37 l1 x7_2).f0) = 3
                        · rw [if_pos c30] at H
                          have c30b0 : (((rd_T37 l1 x7_2).f0) == 3) = true := beq_iff_eq.mpr c30
                          have c30b1 : (((rd_T37 l1 x7_2).f0) != 3) = false := bne_eq_false_iff_eq.mpr c30
                          clear c30
                          replace H := Option.bind_eq_some_iff.mp H
                          obtain ⟨⟨t231, t232, t233⟩, A310, H⟩ := H
                          replace H : ((palaverlaw01_read.f x0_2 2 x6_2).bind fun bt234 => ((palaverref01_Value.f k2 bt234.1).bind fun t237 => ((palaverlaw01_read.f bt234.2.1 t237 bt234.2.2).bind fun bt238 => (if t231.toList = bt238.1.toList then (palaverlaw01_OctetsReads.j2 k2 bt238.2.1 l1 bt238.2.2 x7_2 0 0 t232 t233) else (some false))))) = some r := H
                          have A31 := Aside0.mk A310
                          clear A310
                          replace H := Option.bind_eq_some_iff.mp H
                          obtain ⟨⟨t234, t235, t236⟩, A320, H⟩ := H
                          replace H : ((palaverref01_Value.f k2 t234).bind fun t237 => ((palaverlaw01_read.f t235 t237 t236).bind fun bt238 => (if t231.toList = bt238.1.toList then (palaverlaw01_OctetsReads.j2 k2 bt238.2.1 l1 bt238.2.2 x7_2 0 0 t232 t233) else (some false)))) = some r := H
                          have A32 := Aside0.mk A320
                          clear A320
                          replace H := Option.bind_eq_some_iff.mp H
                          obtain ⟨t237, A330, H⟩ := H
                          replace H : ((palaverlaw01_read.f t235 t237 t236).bind fun bt238 => (if t231.toList = bt238.1.toList then (palaverlaw01_OctetsReads.j2 k2 bt238.2.1 l1 bt238.2.2 x7_2 0 0 t232 t233) else (some false))) = some r := H
                          have A33 := Aside0.mk A330
                          clear A330
                          replace H := Option.bind_eq_some_iff.mp H
                          obtain ⟨⟨t238, t239, t240⟩, A340, H⟩ := H
                          replace H : (if t231.toList = t238.toList then (palaverlaw01_OctetsReads.j2 k2 t239 l1 t240 x7_2 0 0 t232 t233) else (some false)) = some r := H
                          have A34 := Aside0.mk A340
                          clear A340
                          by_cases c35 : t231.toList = t238.toList
                          · rw [if_pos c35] at H
                            have c35b0 : (t231.toList == t238.toList) = true := beq_iff_eq.mpr c35
                            have c35b1 : (t231.toList != t238.toList) = false := bne_eq_false_iff_eq.mpr c35
                            clear c35
                            have H' := Aside0.mk H
                            clear H
                            go_wp2_with (first | ((with_reducible refine gate_callee (f := 17) rfl ?_); refine goesL_ (some 98) rfl rfl Try.func17 (by kernel_rfl) rfl #[.pointer (some ⟨g208, 0, none⟩)] rfl (by (try simp only [List.map_toArray, List.map_cons, List.map_nil]); first | done | rfl | (simp only [List.length_drop, List.length_take]; rfl)) ?_; (with_reducible refine (octets_Reader_Text.calls k2 g208 x209000_2 x209001_2 t231 t232 t233 w _ ?side1 ?side2 A31.out).mono ?_); (case side1 => repeat (first | (with_reducible first | exact HI208.out | apply IsS48.alloc | apply IsS48.drewN | apply IsS48.drew | apply IsS48.set_0 | apply IsS48.set_1) | exact HI208.out)); (case side2 => repeat (first | (with_reducible first | exact HB.out | apply below_alloc | apply pw_below_drewN | apply below_drew1 | refine below_set ?_ (IsS48.ge HI208.out)) | exact HB.out)); rintro e w36 ⟨rfl, hi, hb, hk⟩; refine ⟨_, rfl, ?_⟩; have n0_ := Aside0.mk (hb); have n1_ := Aside0.mk (hi); clear HB; clear HI208; have HB := n0_; have HI208 := n1_; clear n0_ n1_; (try clear hb); (try clear hb2); (try clear hk); (try clear hi)) | ((with_reducible refine gate_callee (f := 22) rfl ?_); refine goesL_ (some 102) rfl rfl Try.func22 (by kernel_rfl) rfl #[.string x0_2, .int .i64 2, .bool x6_2] rfl (by (try simp only [List.map_toArray, List.map_cons, List.map_nil]); first | done | rfl | (simp only [List.length_drop, List.length_take]; rfl)) ?_; (with_reducible refine (palaverlaw01_read.calls x0_2 2 x6_2 t234 t235 t236 _ A32.out).mono ?_); rintro e w' ⟨rfl, ⟨nd, rfl⟩⟩; refine ⟨_, rfl, ?_⟩) | ((with_reducible refine gate_callee (f := 23) rfl ?_); refine goesL_ (some 109) rfl rfl Try.func23 (by kernel_rfl) rfl #[.string t234] rfl (by (try simp only [List.map_toArray, List.map_cons, List.map_nil]); first | done | rfl | (simp only [List.length_drop, List.length_take]; rfl)) ?_; (with_reducible refine (palaverref01_Value.calls k2 t234 t237 _ A33.out).mono ?_); rintro e w' ⟨rfl, ⟨nd, rfl⟩⟩; refine ⟨_, rfl, ?_⟩) | ((with_reducible refine gate_callee (f := 22) rfl ?_); refine goesL_ (some 111) rfl rfl Try.func22 (by kernel_rfl) rfl #[.string t235, .int .i64 t237, .bool t236] rfl (by (try simp only [List.map_toArray, List.map_cons, List.map_nil]); first | done | rfl | (simp only [List.length_drop, List.length_take]; rfl)) ?_; (with_reducible refine (palaverlaw01_read.calls t235 t237 t236 t238 t239 t240 _ A34.out).mono ?_); rintro e w' ⟨rfl, ⟨nd, rfl⟩⟩; refine ⟨_, rfl, ?_⟩))
                            go_meet
                            case rel => exact ⟨_, (t239), (t240), (0), (0), (t232), (t233), (by first | rfl | (simp; done) | (simp [*]; done)), (by first | rfl | (simp; done) | (simp [*]; done)), (by first | rfl | (simp; done) | (simp [*]; done)), (by first | rfl | (simp; done) | (simp [*]; done)), H', ⟨by have := HJ2.out; have := HK2.out; first | omega | exact Nat.le_refl _⟩, ⟨by repeat (first | (with_reducible first | exact HI208.out | apply IsS48.alloc | apply IsS48.drewN | apply IsS48.drew | apply IsS48.set_0 | apply IsS48.set_1) | exact HI208.out)⟩, ⟨by repeat (first | (with_reducible first | exact HB.out | apply below_alloc | apply pw_below_drewN | apply below_drew1 | refine below_set ?_ (IsS48.ge HI208.out)) | exact HB.out)⟩⟩
                          · rw [if_neg c35] at H
                            have c35b0 : (t231.toList == t238.toList) = false := beq_eq_false_iff_ne.mpr c35
                            have c35b1 : (t231.toList != t238.toList) = true := bne_iff_ne.mpr c35
                            obtain rfl := Option.some.inj H
                            go_wp2_with (first | ((with_reducible refine gate_callee (f := 17) rfl ?_); refine goesL_ (some 98) rfl rfl Try.func17 (by kernel_rfl) rfl #[.pointer (some ⟨g208, 0, none⟩)] rfl (by (try simp only [List.map_toArray, List.map_cons, List.map_nil]); first | done | rfl | (simp only [List.length_drop, List.length_take]; rfl)) ?_; (with_reducible refine (octets_Reader_Text.calls k2 g208 x209000_2 x209001_2 t231 t232 t233 w _ ?side1 ?side2 A31.out).mono ?_); (case side1 => repeat (first | (with_reducible first | exact HI208.out | apply IsS48.alloc | apply IsS48.drewN | apply IsS48.drew | apply IsS48.set_0 | apply IsS48.set_1) | exact HI208.out)); (case side2 => repeat (first | (with_reducible first | exact HB.out | apply below_alloc | apply pw_below_drewN | apply below_drew1 | refine below_set ?_ (IsS48.ge HI208.out)) | exact HB.out)); rintro e w37 ⟨rfl, hi, hb, hk⟩; refine ⟨_, rfl, ?_⟩; have n0_ := Aside0.mk (hb); have n1_ := Aside0.mk (hi); clear HB; clear HI208; have HB := n0_; have HI208 := n1_; clear n0_ n1_; (try clear hb); (try clear hb2); (try clear hk); (try clear hi)) | ((with_reducible refine gate_callee (f := 22) rfl ?_); refine goesL_ (some 102) rfl rfl Try.func22 (by kernel_rfl) rfl #[.string x0_2, .int .i64 2, .bool x6_2] rfl (by (try simp only [List.map_toArray, List.map_cons, List.map_nil]); first | done | rfl | (simp only [List.length_drop, List.length_take]; rfl)) ?_; (with_reducible refine (palaverlaw01_read.calls x0_2 2 x6_2 t234 t235 t236 _ A32.out).mono ?_); rintro e w' ⟨rfl, ⟨nd, rfl⟩⟩; refine ⟨_, rfl, ?_⟩) | ((with_reducible refine gate_callee (f := 23) rfl ?_); refine goesL_ (some 109) rfl rfl Try.func23 (by kernel_rfl) rfl #[.string t234] rfl (by (try simp only [List.map_toArray, List.map_cons, List.map_nil]); first | done | rfl | (simp only [List.length_drop, List.length_take]; rfl)) ?_; (with_reducible refine (palaverref01_Value.calls k2 t234 t237 _ A33.out).mono ?_); rintro e w' ⟨rfl, ⟨nd, rfl⟩⟩; refine ⟨_, rfl, ?_⟩) | ((with_reducible refine gate_callee (f := 22) rfl ?_); refine goesL_ (some 111) rfl rfl Try.func22 (by kernel_rfl) rfl #[.string t235, .int .i64 t237, .bool t236] rfl (by (try simp only [List.map_toArray, List.map_cons, List.map_nil]); first | done | rfl | (simp only [List.length_drop, List.length_take]; rfl)) ?_; (with_reducible refine (palaverlaw01_read.calls t235 t237 t236 t238 t239 t240 _ A34.out).mono ?_); rintro e w' ⟨rfl, ⟨nd, rfl⟩⟩; refine ⟨_, rfl, ?_⟩))
                            go_ret
                            exact ⟨by first | rfl | (simp [errW_none, errW_some] <;> rfl) | (simp [*, errW_none, errW_some] <;> rfl), by repeat (first | (with_reducible first | exact HB.out | apply below_alloc | apply pw_below_drewN | apply below_drew1 | refine below_set ?_ (IsS48.ge HI208.out)) | exact HB.out)⟩
                        · rw [if_neg c30] at H
                          have c30b0 : (((rd_T37 l1 x7_2).f0) == 3) = false := beq_eq_false_iff_ne.mpr c30
                          have c30b1 : (((rd_T37 l1 x7_2).f0) != 3) = true := bne_iff_ne.mpr c30
                          replace H := Option.bind_eq_some_iff.mp H
                          obtain ⟨⟨t242, t243, t244⟩, A380, H⟩ := H
                          replace H : ((palaverlaw01_read.f x0_2 ((rd_T37 l1 x7_2).f1) x6_2).bind fun bt246 => (if t242.toList = bt246.1.toList then (palaverlaw01_OctetsReads.j2 k2 bt246.2.1 l1 bt246.2.2 x7_2 0 0 t243 t244) else (some false))) = some r := H
                          have A38 := Aside0.mk A380
                          clear A380
                          replace H := Option.bind_eq_some_iff.mp H
                          obtain ⟨⟨t246, t247, t248⟩, A390, H⟩ := H
                          replace H : (if t242.toList = t246.toList then (palaverlaw01_OctetsReads.j2 k2 t247 l1 t248 x7_2 0 0 t243 t244) else (some false)) = some r := H
                          have A39 := Aside0.mk A390
                          clear A390
                          by_cases c40 : t242.toList = t246.toList
                          · rw [if_pos c40] at H
                            have c40b0 : (t242.toList == t246.toList) = true := beq_iff_eq.mpr c40
                            have c40b1 : (t242.toList != t246.toList) = false := bne_eq_false_iff_eq.mpr c40
                            clear c40
                            have H' := Aside0.mk H
                            clear H
                            have p241 : 0 ≤ (x7_2 : Int) := of_decide_eq_true (by first | (with_reducible assumption) | assumption)
                            have q241 : x7_2 < (l1.length : Int) := of_decide_eq_true (by first | (with_reducible assumption) | assumption)
                            obtain ⟨ad241, e241, hx241_0, hx241_1⟩ := at_T37 HR1.out x7_2 p241 q241
                            obtain rfl : ad209 = ad241 := (by injection e241)
                            replace hx241_0 := (HB.out.cell (World.block_lt_of_cell? w _ hx241_0)).trans hx241_0
                            replace hx241_1 := (HB.out.cell (World.block_lt_of_cell? w _ hx241_1)).trans hx241_1
                            replace p241 := eq_true p241
                            replace q241 := eq_true q241
                            go_wp2_with (first | ((with_reducible refine gate_callee (f := 26) rfl ?_); refine goesL_ (some 40) rfl rfl Try.func26 (by kernel_rfl) rfl #[.pointer (some ⟨g208, 0, none⟩), .int .i64 ((rd_T37 l1 x7_2).f1)] rfl (by (try simp only [List.map_toArray, List.map_cons, List.map_nil]); first | done | rfl | (simp only [List.length_drop, List.length_take]; rfl)) ?_; (with_reducible refine (octets_Reader_Take.calls k2 g208 x209000_2 x209001_2 ((rd_T37 l1 x7_2).f1) t242 t243 t244 w _ ?side1 ?side2 A38.out).mono ?_); (case side1 => repeat (first | (with_reducible first | exact HI208.out | apply IsS48.alloc | apply IsS48.drewN | apply IsS48.drew | apply IsS48.set_0 | apply IsS48.set_1) | exact HI208.out)); (case side2 => repeat (first | (with_reducible first | exact HB.out | apply below_alloc | apply pw_below_drewN | apply below_drew1 | refine below_set ?_ (IsS48.ge HI208.out)) | exact HB.out)); rintro e w41 ⟨rfl, hi, hb, hk⟩; refine ⟨_, rfl, ?_⟩; have n0_ := Aside0.mk (hb); have n1_ := Aside0.mk (hi); clear HB; clear HI208; have HB := n0_; have HI208 := n1_; clear n0_ n1_; (try clear hb); (try clear hb2); (try clear hk); (try clear hi); have p245 : 0 ≤ (x7_2 : Int) := of_decide_eq_true (by first | (with_reducible assumption) | assumption); have q245 : x7_2 < (l1.length : Int) := of_decide_eq_true (by first | (with_reducible assumption) | assumption); obtain ⟨ad245, e245, hx245_0, hx245_1⟩ := at_T37 HR1.out x7_2 p245 q245; obtain rfl : ad209 = ad245 := (by injection e245); replace hx245_0 := (HB.out.cell (World.block_lt_of_cell? w _ hx245_0)).trans hx245_0; replace hx245_1 := (HB.out.cell (World.block_lt_of_cell? w _ hx245_1)).trans hx245_1; replace p245 := eq_true p245; replace q245 := eq_true q245) | ((with_reducible refine gate_callee (f := 22) rfl ?_); refine goesL_ (some 49) rfl rfl Try.func22 (by kernel_rfl) rfl #[.string x0_2, .int .i64 ((rd_T37 l1 x7_2).f1), .bool x6_2] rfl (by (try simp only [List.map_toArray, List.map_cons, List.map_nil]); first | done | rfl | (simp only [List.length_drop, List.length_take]; rfl)) ?_; (with_reducible refine (palaverlaw01_read.calls x0_2 ((rd_T37 l1 x7_2).f1) x6_2 t246 t247 t248 _ A39.out).mono ?_); rintro e w' ⟨rfl, ⟨nd, rfl⟩⟩; refine ⟨_, rfl, ?_⟩))
                            go_meet
                            case rel => exact ⟨_, (t247), (t248), (0), (0), (t243), (t244), (by first | rfl | (simp; done) | (simp [*]; done)), (by first | rfl | (simp; done) | (simp [*]; done)), (by first | rfl | (simp; done) | (simp [*]; done)), (by first | rfl | (simp; done) | (simp [*]; done)), H', ⟨by have := HJ2.out; have := HK2.out; first | omega | exact Nat.le_refl _⟩, ⟨by repeat (first | (with_reducible first | exact HI208.out | apply IsS48.alloc | apply IsS48.drewN | apply IsS48.drew | apply IsS48.set_0 | apply IsS48.set_1) | exact HI208.out)⟩, ⟨by repeat (first | (with_reducible first | exact HB.out | apply below_alloc | apply pw_below_drewN | apply below_drew1 | refine below_set ?_ (IsS48.ge HI208.out)) | exact HB.out)⟩⟩
                          · rw [if_neg c40] at H
                            have c40b0 : (t242.toList == t246.toList) = false := beq_eq_false_iff_ne.mpr c40
                            have c40b1 : (t242.toList != t246.toList) = true := bne_iff_ne.mpr c40
                            obtain rfl := Option.some.inj H
                            have p241 : 0 ≤ (x7_2 : Int) := of_decide_eq_true (by first | (with_reducible assumption) | assumption)
                            have q241 : x7_2 < (l1.length : Int) := of_decide_eq_true (by first | (with_reducible assumption) | assumption)
                            obtain ⟨ad241, e241, hx241_0, hx241_1⟩ := at_T37 HR1.out x7_2 p241 q241
                            obtain rfl : ad209 = ad241 := (by injection e241)
                            replace hx241_0 := (HB.out.cell (World.block_lt_of_cell? w _ hx241_0)).trans hx241_0
                            replace hx241_1 := (HB.out.cell (World.block_lt_of_cell? w _ hx241_1)).trans hx241_1
                            replace p241 := eq_true p241
                            replace q241 := eq_true q241
                            go_wp2_with (first | ((with_reducible refine gate_callee (f := 26) rfl ?_); refine goesL_ (some 40) rfl rfl Try.func26 (by kernel_rfl) rfl #[.pointer (some ⟨g208, 0, none⟩), .int .i64 ((rd_T37 l1 x7_2).f1)] rfl (by (try simp only [List.map_toArray, List.map_cons, List.map_nil]); first | done | rfl | (simp only [List.length_drop, List.length_take]; rfl)) ?_; (with_reducible refine (octets_Reader_Take.calls k2 g208 x209000_2 x209001_2 ((rd_T37 l1 x7_2).f1) t242 t243 t244 w _ ?side1 ?side2 A38.out).mono ?_); (case side1 => repeat (first | (with_reducible first | exact HI208.out | apply IsS48.alloc | apply IsS48.drewN | apply IsS48.drew | apply IsS48.set_0 | apply IsS48.set_1) | exact HI208.out)); (case side2 => repeat (first | (with_reducible first | exact HB.out | apply below_alloc | apply pw_below_drewN | apply below_drew1 | refine below_set ?_ (IsS48.ge HI208.out)) | exact HB.out)); rintro e w42 ⟨rfl, hi, hb, hk⟩; refine ⟨_, rfl, ?_⟩; have n0_ := Aside0.mk (hb); have n1_ := Aside0.mk (hi); clear HB; clear HI208; have HB := n0_; have HI208 := n1_; clear n0_ n1_; (try clear hb); (try clear hb2); (try clear hk); (try clear hi); have p245 : 0 ≤ (x7_2 : Int) := of_decide_eq_true (by first | (with_reducible assumption) | assumption); have q245 : x7_2 < (l1.length : Int) := of_decide_eq_true (by first | (with_reducible assumption) | assumption); obtain ⟨ad245, e245, hx245_0, hx245_1⟩ := at_T37 HR1.out x7_2 p245 q245; obtain rfl : ad209 = ad245 := (by injection e245); replace hx245_0 := (HB.out.cell (World.block_lt_of_cell? w _ hx245_0)).trans hx245_0; replace hx245_1 := (HB.out.cell (World.block_lt_of_cell? w _ hx245_1)).trans hx245_1; replace p245 := eq_true p245; replace q245 := eq_true q245) | ((with_reducible refine gate_callee (f := 22) rfl ?_); refine goesL_ (some 49) rfl rfl Try.func22 (by kernel_rfl) rfl #[.string x0_2, .int .i64 ((rd_T37 l1 x7_2).f1), .bool x6_2] rfl (by (try simp only [List.map_toArray, List.map_cons, List.map_nil]); first | done | rfl | (simp only [List.length_drop, List.length_take]; rfl)) ?_; (with_reducible refine (palaverlaw01_read.calls x0_2 ((rd_T37 l1 x7_2).f1) x6_2 t246 t247 t248 _ A39.out).mono ?_); rintro e w' ⟨rfl, ⟨nd, rfl⟩⟩; refine ⟨_, rfl, ?_⟩))
                            go_ret
                            exact ⟨by first | rfl | (simp [errW_none, errW_some] <;> rfl) | (simp [*, errW_none, errW_some] <;> rfl), by repeat (first | (with_reducible first | exact HB.out | apply below_alloc | apply pw_below_drewN | apply below_drew1 | refine below_set ?_ (IsS48.ge HI208.out)) | exact HB.out)⟩
                case rest =>
                  clear HC14
                  try clear c1
                  try clear c2
                  try clear p2
                  try clear q2
                  try clear hx2
                  try clear c3
                  try clear c4
                  try clear c4b0
                  try clear c4b1
                  try clear c6
                  try clear c7
                  try clear c11
                  try clear c12
                  try clear c12b0
                  try clear c13
                  try clear c13b0
                  try clear c15
                  try clear c15b0
                  try clear c15b1
                  try clear c16
                  try clear c17
                  try clear c19
                  try clear c20
                  try clear c20b0
                  try clear c20b1
                  try clear p20
                  try clear q20
                  try clear hx20
                  try clear c22
                  try clear c23
                  try clear c24
                  try clear p24
                  try clear q24
                  try clear hx24
                  try clear c25
                  try clear c25b0
                  try clear c25b1
                  try clear c26
                  try clear c30
                  try clear c30b0
                  try clear c30b1
                  try clear c35
                  try clear c35b0
                  try clear c35b1
                  try clear c40
                  try clear c40b0
                  try clear c40b1
                  try clear hx209_0
                  try clear hx209_1
                  try clear hx241_0
                  try clear hx241_1
                  try clear hx245_0
                  try clear hx245_1
                  try clear p2
                  try clear p209
                  try clear p241
                  try clear p245
                  try clear q209
                  try clear q241
                  try clear q245
                  obtain ⟨kq, x0_13, x6_13, x10_13, x11_13, x209000_13, x209001_13, rfl, rfl, rfl, rfl, HA, HJ13, HI208, HB⟩ := hcut
                  cases kq with
                  | zero => exact absurd HA.out (by simp [palaverlaw01_OctetsReads.j2])
                  | succ kj13 =>
                    have H := HA.out
                    clear HA
                    simp only [palaverlaw01_OctetsReads.j2] at H
                    have HC43 := Aside0.mk H
                    clear H
                    go_upto_if 120 with (fail)
                    go_cut [12] (fun v12 wc => ∃ (kq : Nat) (x12_42 : Int), v12 = .int .i64 x12_42 ∧ Aside0 (palaverlaw01_OctetsReads.j3 kq x0_13 l1 x6_13 x7_2 x10_13 x11_13 x12_42 x209000_13 x209001_13 = some r) ∧ Aside0 (kq ≤ kj13) ∧ Aside0 (IsS48 w wc g208 x209000_13 x209001_13) ∧ Aside0 (Below w.heap.size w wc))
                    case first =>
                      have H := HC43.out
                      clear HC43
                      by_cases c44 : x6_13 = true
                      · subst c44
                        have H1 : (palaverlaw01_OctetsReads.j3 kj13 x0_13 l1 true x7_2 x10_13 x11_13 0 x209000_13 x209001_13) = some r := by rw [if_pos rfl] at H; exact H
                        clear H
                        have H := H1
                        clear H1
                        have H' := Aside0.mk H
                        clear H
                        go_wp2
                        go_meet
                        case rel => exact ⟨_, (0), (by first | rfl | (simp; done) | (simp [*]; done)), H', ⟨by have := HJ2.out; have := HK2.out; have := HJ13.out; first | omega | exact Nat.le_refl _⟩, ⟨by repeat (first | (with_reducible first | exact HI208.out | apply IsS48.alloc | apply IsS48.drewN | apply IsS48.drew | apply IsS48.set_0 | apply IsS48.set_1) | exact HI208.out)⟩, ⟨by repeat (first | (with_reducible first | exact HB.out | apply below_alloc | apply pw_below_drewN | apply below_drew1 | refine below_set ?_ (IsS48.ge HI208.out)) | exact HB.out)⟩⟩
                      · replace c44 := Bool.eq_false_iff.mpr c44
                        subst c44
                        have H1 : (palaverlaw01_OctetsReads.j3 kj13 x0_13 l1 false x7_2 x10_13 x11_13 (x0_13.size : Int) x209000_13 x209001_13) = some r := by rw [if_neg (show ¬ (false = true) by decide)] at H; exact H
                        clear H
                        have H := H1
                        clear H1
                        have H' := Aside0.mk H
                        clear H
                        go_wp2
                        go_meet
                        case rel => exact ⟨_, ((x0_13.size : Int)), (by first | rfl | (simp; done) | (simp [*]; done)), H', ⟨by have := HJ2.out; have := HK2.out; have := HJ13.out; first | omega | exact Nat.le_refl _⟩, ⟨by repeat (first | (with_reducible first | exact HI208.out | apply IsS48.alloc | apply IsS48.drewN | apply IsS48.drew | apply IsS48.set_0 | apply IsS48.set_1) | exact HI208.out)⟩, ⟨by repeat (first | (with_reducible first | exact HB.out | apply below_alloc | apply pw_below_drewN | apply below_drew1 | refine below_set ?_ (IsS48.ge HI208.out)) | exact HB.out)⟩⟩
                    case rest =>
                      clear HC43
                      try clear c1
                      try clear c2
                      try clear p2
                      try clear q2
                      try clear hx2
                      try clear c3
                      try clear c4
                      try clear c4b0
                      try clear c4b1
                      try clear c6
                      try clear c7
                      try clear c11
                      try clear c12
                      try clear c12b0
                      try clear c13
                      try clear c13b0
                      try clear c15
                      try clear c15b0
                      try clear c15b1
                      try clear c16
                      try clear c17
                      try clear c19
                      try clear c20
                      try clear c20b0
                      try clear c20b1
                      try clear p20
                      try clear q20
                      try clear hx20
                      try clear c22
                      try clear c23
                      try clear c24
                      try clear p24
                      try clear q24
                      try clear hx24
                      try clear c25
                      try clear c25b0
                      try clear c25b1
                      try clear c26
                      try clear c30
                      try clear c30b0
                      try clear c30b1
                      try clear c35
                      try clear c35b0
                      try clear c35b1
                      try clear c40
                      try clear c40b0
                      try clear c40b1
                      try clear c44
                      try clear hx209_0
                      try clear hx209_1
                      try clear hx241_0
                      try clear hx241_1
                      try clear hx245_0
                      try clear hx245_1
                      try clear p2
                      try clear p20
                      try clear p209
                      try clear p24
                      try clear p241
                      try clear p245
                      try clear q2
                      try clear q20
                      try clear q209
                      try clear q24
                      try clear q241
                      try clear q245
                      obtain ⟨kq, x12_42, rfl, HA, HJ42, HI208, HB⟩ := hcut
                      cases kq with
                      | zero => exact absurd HA.out (by simp [palaverlaw01_OctetsReads.j3])
                      | succ kj42 =>
                        have H := HA.out
                        clear HA
                        simp only [palaverlaw01_OctetsReads.j3] at H
                        by_cases c45 : x10_13 = x11_13
                        · rw [if_pos c45] at H
                          have c45b0 : (x10_13 == x11_13) = true := beq_iff_eq.mpr c45
                          have c45b1 : (x10_13 != x11_13) = false := bne_eq_false_iff_eq.mpr c45
                          clear c45
                          replace H := Option.bind_eq_some_iff.mp H
                          obtain ⟨⟨t249, t250, t251⟩, A460, H⟩ := H
                          replace H : (if (t249 == x6_13) = true then (some false) else ((octets_Reader_Left.f t250 t251).bind fun bt252 => (if bt252.1 = x12_42 then ((octets_Reader_End.f bt252.2.1 bt252.2.2).bind fun bt255 => (if x6_13 = true then (if (bt255.1 != false) = true then (some false) else (palaverlaw01_OctetsReads.l0 kj42 x0_13 l1 x6_13 (wrap64 (x7_2 + 1)) bt255.2.1 bt255.2.2)) else (if (bt255.1 != ((x0_13.size : Int) == 0)) = true then (some false) else (palaverlaw01_OctetsReads.l0 kj42 x0_13 l1 x6_13 (wrap64 (x7_2 + 1)) bt255.2.1 bt255.2.2)))) else (some false)))) = some r := H
                          have A46 := Aside0.mk A460
                          clear A460
                          by_cases c47 : (t249 == x6_13) = true
                          · rw [if_pos c47] at H
                            have c47b0 : (t249 == x6_13) = true := c47
                            (try (have c47b1 : decide (t249 = x6_13) = true := by simpa using c47))
                            (try (have c47b2 : (t249 == x6_13) = true := by simpa using c47))
                            clear c47
                            obtain rfl := Option.some.inj H
                            go_wp2_with (first | (go_at_call 18; (with_reducible refine (octets_Reader_Good.calls g208 x209000_13 x209001_13 t249 t250 t251 w _ ?side1 ?side2 A46.out).mono ?_); (case side1 => repeat (first | (with_reducible first | exact HI208.out | apply IsS48.alloc | apply IsS48.drewN | apply IsS48.drew | apply IsS48.set_0 | apply IsS48.set_1) | exact HI208.out)); (case side2 => repeat (first | (with_reducible first | exact HB.out | apply below_alloc | apply pw_below_drewN | apply below_drew1 | refine below_set ?_ (IsS48.ge HI208.out)) | exact HB.out)); rintro e w48 ⟨rfl, hi, hb, hk⟩; have n0_ := Aside0.mk (hb); have n1_ := Aside0.mk (hi); clear HB; clear HI208; have HB := n0_; have HI208 := n1_; clear n0_ n1_; (try clear hb); (try clear hb2); (try clear hk); (try clear hi)))
                            go_ret
                            exact ⟨by first | rfl | (simp [errW_none, errW_some] <;> rfl) | (simp [*, errW_none, errW_some] <;> rfl), by repeat (first | (with_reducible first | exact HB.out | apply below_alloc | apply pw_below_drewN | apply below_drew1 | refine below_set ?_ (IsS48.ge HI208.out)) | exact HB.out)⟩
                          · rw [if_neg c47] at H
                            have c47b0 : (t249 == x6_13) = false := by simpa using c47
                            (try (have c47b1 : decide (t249 = x6_13) = false := by simpa using c47))
                            (try (have c47b2 : (t249 == x6_13) = false := by simpa using c47))
                            (try (have c47b3 : ¬ (t249 = x6_13) := by simpa using c47))
                            clear c47
                            replace H := Option.bind_eq_some_iff.mp H
                            obtain ⟨⟨t252, t253, t254⟩, A490, H⟩ := H
                            replace H : (if t252 = x12_42 then ((octets_Reader_End.f t253 t254).bind fun bt255 => (if x6_13 = true then (if (bt255.1 != false) = true then (some false) else (palaverlaw01_OctetsReads.l0 kj42 x0_13 l1 x6_13 (wrap64 (x7_2 + 1)) bt255.2.1 bt255.2.2)) else (if (bt255.1 != ((x0_13.size : Int) == 0)) = true then (some false) else (palaverlaw01_OctetsReads.l0 kj42 x0_13 l1 x6_13 (wrap64 (x7_2 + 1)) bt255.2.1 bt255.2.2)))) else (some false)) = some r := H
                            have A49 := Aside0.mk A490
                            clear A490
                            by_cases c50 : t252 = x12_42
                            · rw [if_pos c50] at H
                              have c50b0 : (t252 == x12_42) = true := beq_iff_eq.mpr c50
                              have c50b1 : (t252 != x12_42) = false := bne_eq_false_iff_eq.mpr c50
                              clear c50
                              replace H := Option.bind_eq_some_iff.mp H
                              obtain ⟨⟨t255, t256, t257⟩, A510, H⟩ := H
                              replace H : (if x6_13 = true then (if (t255 != false) = true then (some false) else (palaverlaw01_OctetsReads.l0 kj42 x0_13 l1 x6_13 (wrap64 (x7_2 + 1)) t256 t257)) else (if (t255 != ((x0_13.size : Int) == 0)) = true then (some false) else (palaverlaw01_OctetsReads.l0 kj42 x0_13 l1 x6_13 (wrap64 (x7_2 + 1)) t256 t257))) = some r := H
                              have A51 := Aside0.mk A510
                              clear A510
                              by_cases c52 : x6_13 = true
                              · subst c52
                                have H1 : (if (t255 != false) = true then (some false) else (palaverlaw01_OctetsReads.l0 kj42 x0_13 l1 true (wrap64 (x7_2 + 1)) t256 t257)) = some r := by rw [if_pos rfl] at H; exact H
                                clear H
                                have H := H1
                                clear H1
                                by_cases c53 : (t255 != false) = true
                                · rw [if_pos c53] at H
                                  have c53b0 : (t255 != false) = true := c53
                                  (try (have c53b1 : decide (t255 = false) = false := by simpa using c53))
                                  (try (have c53b2 : (t255 == false) = false := by simpa using c53))
                                  (try (have c53b3 : ¬ (t255 = false) := by simpa using c53))
                                  clear c53
                                  obtain rfl := Option.some.inj H
                                  go_wp2_with (first | (go_at_call 18; (with_reducible refine (octets_Reader_Good.calls g208 x209000_13 x209001_13 t249 t250 t251 w _ ?side1 ?side2 A46.out).mono ?_); (case side1 => repeat (first | (with_reducible first | exact HI208.out | apply IsS48.alloc | apply IsS48.drewN | apply IsS48.drew | apply IsS48.set_0 | apply IsS48.set_1) | exact HI208.out)); (case side2 => repeat (first | (with_reducible first | exact HB.out | apply below_alloc | apply pw_below_drewN | apply below_drew1 | refine below_set ?_ (IsS48.ge HI208.out)) | exact HB.out)); rintro e w54 ⟨rfl, hi, hb, hk⟩; have n0_ := Aside0.mk (hb); have n1_ := Aside0.mk (hi); clear HB; clear HI208; have HB := n0_; have HI208 := n1_; clear n0_ n1_; (try clear hb); (try clear hb2); (try clear hk); (try clear hi)) | (go_at_call 20; (with_reducible refine (octets_Reader_Left.calls g208 t250 t251 t252 t253 t254 w _ ?side1 ?side2 A49.out).mono ?_); (case side1 => repeat (first | (with_reducible first | exact HI208.out | apply IsS48.alloc | apply IsS48.drewN | apply IsS48.drew | apply IsS48.set_0 | apply IsS48.set_1) | exact HI208.out)); (case side2 => repeat (first | (with_reducible first | exact HB.out | apply below_alloc | apply pw_below_drewN | apply below_drew1 | refine below_set ?_ (IsS48.ge HI208.out)) | exact HB.out)); rintro e w55 ⟨rfl, hi, hb, hk⟩; have n0_ := Aside0.mk (hb); have n1_ := Aside0.mk (hi); clear HB; clear HI208; have HB := n0_; have HI208 := n1_; clear n0_ n1_; (try clear hb); (try clear hb2); (try clear hk); (try clear hi)) | (go_at_call 21; (with_reducible refine (octets_Reader_End.calls g208 t253 t254 t255 t256 t257 w _ ?side1 ?side2 A51.out).mono ?_); (case side1 => repeat (first | (with_reducible first | exact HI208.out | apply IsS48.alloc | apply IsS48.drewN | apply IsS48.drew | apply IsS48.set_0 | apply IsS48.set_1) | exact HI208.out)); (case side2 => repeat (first | (with_reducible first | exact HB.out | apply below_alloc | apply pw_below_drewN | apply below_drew1 | refine below_set ?_ (IsS48.ge HI208.out)) | exact HB.out)); rintro e w56 ⟨rfl, hi, hb, hk⟩; have n0_ := Aside0.mk (hb); have n1_ := Aside0.mk (hi); clear HB; clear HI208; have HB := n0_; have HI208 := n1_; clear n0_ n1_; (try clear hb); (try clear hb2); (try clear hk); (try clear hi)))
                                  go_ret
                                  exact ⟨by first | rfl | (simp [errW_none, errW_some] <;> rfl) | (simp [*, errW_none, errW_some] <;> rfl), by repeat (first | (with_reducible first | exact HB.out | apply below_alloc | apply pw_below_drewN | apply below_drew1 | refine below_set ?_ (IsS48.ge HI208.out)) | exact HB.out)⟩
                                · rw [if_neg c53] at H
                                  have c53b0 : (t255 != false) = false := by simpa using c53
                                  (try (have c53b1 : decide (t255 = false) = true := by simpa using c53))
                                  (try (have c53b2 : (t255 == false) = true := by simpa using c53))
                                  clear c53
                                  have H' := Aside0.mk H
                                  clear H
                                  go_wp2_with (first | (go_at_call 18; (with_reducible refine (octets_Reader_Good.calls g208 x209000_13 x209001_13 t249 t250 t251 w _ ?side1 ?side2 A46.out).mono ?_); (case side1 => repeat (first | (with_reducible first | exact HI208.out | apply IsS48.alloc | apply IsS48.drewN | apply IsS48.drew | apply IsS48.set_0 | apply IsS48.set_1) | exact HI208.out)); (case side2 => repeat (first | (with_reducible first | exact HB.out | apply below_alloc | apply pw_below_drewN | apply below_drew1 | refine below_set ?_ (IsS48.ge HI208.out)) | exact HB.out)); rintro e w57 ⟨rfl, hi, hb, hk⟩; have n0_ := Aside0.mk (hb); have n1_ := Aside0.mk (hi); clear HB; clear HI208; have HB := n0_; have HI208 := n1_; clear n0_ n1_; (try clear hb); (try clear hb2); (try clear hk); (try clear hi)) | (go_at_call 20; (with_reducible refine (octets_Reader_Left.calls g208 t250 t251 t252 t253 t254 w _ ?side1 ?side2 A49.out).mono ?_); (case side1 => repeat (first | (with_reducible first | exact HI208.out | apply IsS48.alloc | apply IsS48.drewN | apply IsS48.drew | apply IsS48.set_0 | apply IsS48.set_1) | exact HI208.out)); (case side2 => repeat (first | (with_reducible first | exact HB.out | apply below_alloc | apply pw_below_drewN | apply below_drew1 | refine below_set ?_ (IsS48.ge HI208.out)) | exact HB.out)); rintro e w58 ⟨rfl, hi, hb, hk⟩; have n0_ := Aside0.mk (hb); have n1_ := Aside0.mk (hi); clear HB; clear HI208; have HB := n0_; have HI208 := n1_; clear n0_ n1_; (try clear hb); (try clear hb2); (try clear hk); (try clear hi)) | (go_at_call 21; (with_reducible refine (octets_Reader_End.calls g208 t253 t254 t255 t256 t257 w _ ?side1 ?side2 A51.out).mono ?_); (case side1 => repeat (first | (with_reducible first | exact HI208.out | apply IsS48.alloc | apply IsS48.drewN | apply IsS48.drew | apply IsS48.set_0 | apply IsS48.set_1) | exact HI208.out)); (case side2 => repeat (first | (with_reducible first | exact HB.out | apply below_alloc | apply pw_below_drewN | apply below_drew1 | refine below_set ?_ (IsS48.ge HI208.out)) | exact HB.out)); rintro e w59 ⟨rfl, hi, hb, hk⟩; have n0_ := Aside0.mk (hb); have n1_ := Aside0.mk (hi); clear HB; clear HI208; have HB := n0_; have HI208 := n1_; clear n0_ n1_; (try clear hb); (try clear hb2); (try clear hk); (try clear hi)))
                                  go_roundg kj42
                                  case measure => have := HJ2.out; have := HK2.out; have := HJ13.out; have := HJ42.out; omega
                                  case rel => exact ⟨(x0_13), (true), (wrap64 (x7_2 + 1)), (t256), (t257), (by first | rfl | (simp; done) | (simp [*]; done)), (by first | rfl | (simp; done) | (simp [*]; done)), (by first | rfl | (simp; done) | (simp [*]; done)), H', ⟨by have := HJ2.out; have := HK2.out; have := HJ13.out; have := HJ42.out; omega⟩, ⟨by repeat (first | (with_reducible first | exact HI208.out | apply IsS48.alloc | apply IsS48.drewN | apply IsS48.drew | apply IsS48.set_0 | apply IsS48.set_1) | exact HI208.out)⟩, ⟨by repeat (first | (with_reducible first | exact HB.out | apply below_alloc | apply pw_below_drewN | apply below_drew1 | refine below_set ?_ (IsS48.ge HI208.out)) | exact HB.out)⟩⟩
                              · replace c52 := Bool.eq_false_iff.mpr c52
                                subst c52
                                have H1 : (if (t255 != ((x0_13.size : Int) == 0)) = true then (some false) else (palaverlaw01_OctetsReads.l0 kj42 x0_13 l1 false (wrap64 (x7_2 + 1)) t256 t257)) = some r := by rw [if_neg (show ¬ (false = true) by decide)] at H; exact H
                                clear H
                                have H := H1
                                clear H1
                                by_cases c60 : (t255 != ((x0_13.size : Int) == 0)) = true
                                · rw [if_pos c60] at H
                                  have c60b0 : (t255 != ((x0_13.size : Int) == 0)) = true := c60
                                  (try (have c60b1 : decide (t255 = ((x0_13.size : Int) == 0)) = false := by simpa using c60))
                                  (try (have c60b2 : (t255 == ((x0_13.size : Int) == 0)) = false := by simpa using c60))
                                  (try (have c60b3 : ¬ (t255 = ((x0_13.size : Int) == 0)) := by simpa using c60))
                                  clear c60
                                  obtain rfl := Option.some.inj H
                                  go_wp2_with (first | (go_at_call 18; (with_reducible refine (octets_Reader_Good.calls g208 x209000_13 x209001_13 t249 t250 t251 w _ ?side1 ?side2 A46.out).mono ?_); (case side1 => repeat (first | (with_reducible first | exact HI208.out | apply IsS48.alloc | apply IsS48.drewN | apply IsS48.drew | apply IsS48.set_0 | apply IsS48.set_1) | exact HI208.out)); (case side2 => repeat (first | (with_reducible first | exact HB.out | apply below_alloc | apply pw_below_drewN | apply below_drew1 | refine below_set ?_ (IsS48.ge HI208.out)) | exact HB.out)); rintro e w61 ⟨rfl, hi, hb, hk⟩; have n0_ := Aside0.mk (hb); have n1_ := Aside0.mk (hi); clear HB; clear HI208; have HB := n0_; have HI208 := n1_; clear n0_ n1_; (try clear hb); (try clear hb2); (try clear hk); (try clear hi)) | (go_at_call 20; (with_reducible refine (octets_Reader_Left.calls g208 t250 t251 t252 t253 t254 w _ ?side1 ?side2 A49.out).mono ?_); (case side1 => repeat (first | (with_reducible first | exact HI208.out | apply IsS48.alloc | apply IsS48.drewN | apply IsS48.drew | apply IsS48.set_0 | apply IsS48.set_1) | exact HI208.out)); (case side2 => repeat (first | (with_reducible first | exact HB.out | apply below_alloc | apply pw_below_drewN | apply below_drew1 | refine below_set ?_ (IsS48.ge HI208.out)) | exact HB.out)); rintro e w62 ⟨rfl, hi, hb, hk⟩; have n0_ := Aside0.mk (hb); have n1_ := Aside0.mk (hi); clear HB; clear HI208; have HB := n0_; have HI208 := n1_; clear n0_ n1_; (try clear hb); (try clear hb2); (try clear hk); (try clear hi)) | (go_at_call 21; (with_reducible refine (octets_Reader_End.calls g208 t253 t254 t255 t256 t257 w _ ?side1 ?side2 A51.out).mono ?_); (case side1 => repeat (first | (with_reducible first | exact HI208.out | apply IsS48.alloc | apply IsS48.drewN | apply IsS48.drew | apply IsS48.set_0 | apply IsS48.set_1) | exact HI208.out)); (case side2 => repeat (first | (with_reducible first | exact HB.out | apply below_alloc | apply pw_below_drewN | apply below_drew1 | refine below_set ?_ (IsS48.ge HI208.out)) | exact HB.out)); rintro e w63 ⟨rfl, hi, hb, hk⟩; have n0_ := Aside0.mk (hb); have n1_ := Aside0.mk (hi); clear HB; clear HI208; have HB := n0_; have HI208 := n1_; clear n0_ n1_; (try clear hb); (try clear hb2); (try clear hk); (try clear hi)))
                                  go_ret
                                  exact ⟨by first | rfl | (simp [errW_none, errW_some] <;> rfl) | (simp [*, errW_none, errW_some] <;> rfl), by repeat (first | (with_reducible first | exact HB.out | apply below_alloc | apply pw_below_drewN | apply below_drew1 | refine below_set ?_ (IsS48.ge HI208.out)) | exact HB.out)⟩
                                · rw [if_neg c60] at H
                                  have c60b0 : (t255 != ((x0_13.size : Int) == 0)) = false := by simpa using c60
                                  (try (have c60b1 : decide (t255 = ((x0_13.size : Int) == 0)) = true := by simpa using c60))
                                  (try (have c60b2 : (t255 == ((x0_13.size : Int) == 0)) = true := by simpa using c60))
                                  clear c60
                                  have H' := Aside0.mk H
                                  clear H
                                  go_wp2_with (first | (go_at_call 18; (with_reducible refine (octets_Reader_Good.calls g208 x209000_13 x209001_13 t249 t250 t251 w _ ?side1 ?side2 A46.out).mono ?_); (case side1 => repeat (first | (with_reducible first | exact HI208.out | apply IsS48.alloc | apply IsS48.drewN | apply IsS48.drew | apply IsS48.set_0 | apply IsS48.set_1) | exact HI208.out)); (case side2 => repeat (first | (with_reducible first | exact HB.out | apply below_alloc | apply pw_below_drewN | apply below_drew1 | refine below_set ?_ (IsS48.ge HI208.out)) | exact HB.out)); rintro e w64 ⟨rfl, hi, hb, hk⟩; have n0_ := Aside0.mk (hb); have n1_ := Aside0.mk (hi); clear HB; clear HI208; have HB := n0_; have HI208 := n1_; clear n0_ n1_; (try clear hb); (try clear hb2); (try clear hk); (try clear hi)) | (go_at_call 20; (with_reducible refine (octets_Reader_Left.calls g208 t250 t251 t252 t253 t254 w _ ?side1 ?side2 A49.out).mono ?_); (case side1 => repeat (first | (with_reducible first | exact HI208.out | apply IsS48.alloc | apply IsS48.drewN | apply IsS48.drew | apply IsS48.set_0 | apply IsS48.set_1) | exact HI208.out)); (case side2 => repeat (first | (with_reducible first | exact HB.out | apply below_alloc | apply pw_below_drewN | apply below_drew1 | refine below_set ?_ (IsS48.ge HI208.out)) | exact HB.out)); rintro e w65 ⟨rfl, hi, hb, hk⟩; have n0_ := Aside0.mk (hb); have n1_ := Aside0.mk (hi); clear HB; clear HI208; have HB := n0_; have HI208 := n1_; clear n0_ n1_; (try clear hb); (try clear hb2); (try clear hk); (try clear hi)) | (go_at_call 21; (with_reducible refine (octets_Reader_End.calls g208 t253 t254 t255 t256 t257 w _ ?side1 ?side2 A51.out).mono ?_); (case side1 => repeat (first | (with_reducible first | exact HI208.out | apply IsS48.alloc | apply IsS48.drewN | apply IsS48.drew | apply IsS48.set_0 | apply IsS48.set_1) | exact HI208.out)); (case side2 => repeat (first | (with_reducible first | exact HB.out | apply below_alloc | apply pw_below_drewN | apply below_drew1 | refine below_set ?_ (IsS48.ge HI208.out)) | exact HB.out)); rintro e w66 ⟨rfl, hi, hb, hk⟩; have n0_ := Aside0.mk (hb); have n1_ := Aside0.mk (hi); clear HB; clear HI208; have HB := n0_; have HI208 := n1_; clear n0_ n1_; (try clear hb); (try clear hb2); (try clear hk); (try clear hi)))
                                  go_roundg kj42
                                  case measure => have := HJ2.out; have := HK2.out; have := HJ13.out; have := HJ42.out; omega
                                  case rel => exact ⟨(x0_13), (false), (wrap64 (x7_2 + 1)), (t256), (t257), (by first | rfl | (simp; done) | (simp [*]; done)), (by first | rfl | (simp; done) | (simp [*]; done)), (by first | rfl | (simp; done) | (simp [*]; done)), H', ⟨by have := HJ2.out; have := HK2.out; have := HJ13.out; have := HJ42.out; omega⟩, ⟨by repeat (first | (with_reducible first | exact HI208.out | apply IsS48.alloc | apply IsS48.drewN | apply IsS48.drew | apply IsS48.set_0 | apply IsS48.set_1) | exact HI208.out)⟩, ⟨by repeat (first | (with_reducible first | exact HB.out | apply below_alloc | apply pw_below_drewN | apply below_drew1 | refine below_set ?_ (IsS48.ge HI208.out)) | exact HB.out)⟩⟩
                            · rw [if_neg c50] at H
                              have c50b0 : (t252 == x12_42) = false := beq_eq_false_iff_ne.mpr c50
                              have c50b1 : (t252 != x12_42) = true := bne_iff_ne.mpr c50
                              obtain rfl := Option.some.inj H
                              go_wp2_with (first | (go_at_call 18; (with_reducible refine (octets_Reader_Good.calls g208 x209000_13 x209001_13 t249 t250 t251 w _ ?side1 ?side2 A46.out).mono ?_); (case side1 => repeat (first | (with_reducible first | exact HI208.out | apply IsS48.alloc | apply IsS48.drewN | apply IsS48.drew | apply IsS48.set_0 | apply IsS48.set_1) | exact HI208.out)); (case side2 => repeat (first | (with_reducible first | exact HB.out | apply below_alloc | apply pw_below_drewN | apply below_drew1 | refine below_set ?_ (IsS48.ge HI208.out)) | exact HB.out)); rintro e w67 ⟨rfl, hi, hb, hk⟩; have n0_ := Aside0.mk (hb); have n1_ := Aside0.mk (hi); clear HB; clear HI208; have HB := n0_; have HI208 := n1_; clear n0_ n1_; (try clear hb); (try clear hb2); (try clear hk); (try clear hi)) | (go_at_call 20; (with_reducible refine (octets_Reader_Left.calls g208 t250 t251 t252 t253 t254 w _ ?side1 ?side2 A49.out).mono ?_); (case side1 => repeat (first | (with_reducible first | exact HI208.out | apply IsS48.alloc | apply IsS48.drewN | apply IsS48.drew | apply IsS48.set_0 | apply IsS48.set_1) | exact HI208.out)); (case side2 => repeat (first | (with_reducible first | exact HB.out | apply below_alloc | apply pw_below_drewN | apply below_drew1 | refine below_set ?_ (IsS48.ge HI208.out)) | exact HB.out)); rintro e w68 ⟨rfl, hi, hb, hk⟩; have n0_ := Aside0.mk (hb); have n1_ := Aside0.mk (hi); clear HB; clear HI208; have HB := n0_; have HI208 := n1_; clear n0_ n1_; (try clear hb); (try clear hb2); (try clear hk); (try clear hi)))
                              go_ret
                              exact ⟨by first | rfl | (simp [errW_none, errW_some] <;> rfl) | (simp [*, errW_none, errW_some] <;> rfl), by repeat (first | (with_reducible first | exact HB.out | apply below_alloc | apply pw_below_drewN | apply below_drew1 | refine below_set ?_ (IsS48.ge HI208.out)) | exact HB.out)⟩
                        · rw [if_neg c45] at H
                          have c45b0 : (x10_13 == x11_13) = false := beq_eq_false_iff_ne.mpr c45
                          have c45b1 : (x10_13 != x11_13) = true := bne_iff_ne.mpr c45
                          obtain rfl := Option.some.inj H
                          go_wp2
                          go_ret
                          exact ⟨by first | rfl | (simp [errW_none, errW_some] <;> rfl) | (simp [*, errW_none, errW_some] <;> rfl), by repeat (first | (with_reducible first | exact HB.out | apply below_alloc | apply pw_below_drewN | apply below_drew1 | refine below_set ?_ (IsS48.ge HI208.out)) | exact HB.out)⟩
              · rw [if_neg c13] at H
                exact absurd H (by simp)
            · rw [if_neg c12] at H
              have c12b0 : decide (x7_2 < (l1.length : Int)) = false := decide_eq_false c12
              clear c12
              obtain rfl := Option.some.inj H
              go_wp2
              go_ret
              exact ⟨by first | rfl | (simp [errW_none, errW_some] <;> rfl) | (simp [*, errW_none, errW_some] <;> rfl), by repeat (first | (with_reducible first | exact HB.out | apply below_alloc | apply pw_below_drewN | apply below_drew1 | refine below_set ?_ (IsS48.ge HI208.out)) | exact HB.out)⟩

-- NOT PRINTED: function 7 (palaverlaw01_OctetsNone)

end Go.Proofs.Ytjjdfglfjabkjaa.PP
