-- WRITTEN BY a program of this work (wip/ownprint.py), for this seat
import Derived.Test.YtbiempnleljciaaPPx0
namespace Go.Proofs.Ytbiempnleljciaa.PP
open Go.RowKit Go.Proofs.YtbiempnleljciaaW.PrintWords Go.Proofs.YtbiempnleljciaaW.PrintLast Go.Proofs.YtbiempnleljciaaW.PrintMore
attribute [local go_sem] max2_int min2_int max_two min_two max_three min_three max_four min_four   -- for this text's walks alone
set_option linter.unusedVariables false
set_option linter.unusedSimpArgs false

/-! ### palaverref01_Number: function 38 -/
mutual
def palaverref01_Number.l0 : Nat → Int → Int → Int → Int → Option (ByteArray × Bool)
  | 0, _, _, _, _ => none
  | k + 1, x0, x1, x6, x7 => if x7 < x1 then (palaverref01_Number.l0 k x0 x1 (wrap64 (256 * x6)) (wrap64 (x7 + 1))) else (if x0 < 0 then (palaverref01_Number.j1 k x0 x1 true) else (palaverref01_Number.j1 k x0 x1 (decide (x0 ≥ x6))))
def palaverref01_Number.j1 : Nat → Int → Int → Bool → Option (ByteArray × Bool)
  | 0, _, _, _ => none
  | k + 1, x0, x1, x23 => if x23 = true then (some ((⟨#[]⟩ : ByteArray), false)) else (palaverref01_Number.l1 k x0 x1 (⟨#[]⟩ : ByteArray) 0)
def palaverref01_Number.l1 : Nat → Int → Int → ByteArray → Int → Option (ByteArray × Bool)
  | 0, _, _, _, _ => none
  | k + 1, x0, x1, x8, x9 => if x9 < x1 then ((some (([(Int.tmod x0 256) % 256] : List Int) : List Int)).bind fun y141 => (if (strOfNums y141).size + x8.size ≤ 9223372036854775807 then (palaverref01_Number.l1 k (wrap64 (Int.tdiv x0 256)) x1 ((strOfNums y141) ++ x8) (wrap64 (x9 + 1))) else (none))) else (some (x8, true))
end
def palaverref01_Number.f (k : Nat) (a0 : Int) (a1 : Int) : Option (ByteArray × Bool) := palaverref01_Number.l0 k a0 a1 1 0
theorem palaverref01_Number.mono_l : ∀ k, (∀ y0 y1 y2 y3, LeO (palaverref01_Number.l0 k y0 y1 y2 y3) (palaverref01_Number.l0 (k + 1) y0 y1 y2 y3)) ∧ (∀ y0 y1 y2, LeO (palaverref01_Number.j1 k y0 y1 y2) (palaverref01_Number.j1 (k + 1) y0 y1 y2)) ∧ (∀ y0 y1 y2 y3, LeO (palaverref01_Number.l1 k y0 y1 y2 y3) (palaverref01_Number.l1 (k + 1) y0 y1 y2 y3))
  | 0 => ⟨fun _ _ _ _ r h => by simp [palaverref01_Number.l0] at h, fun _ _ _ r h => by simp [palaverref01_Number.j1] at h, fun _ _ _ _ r h => by simp [palaverref01_Number.l1] at h⟩
  | k + 1 => by
    obtain ⟨ih0, ih1, ih2⟩ := palaverref01_Number.mono_l k
    refine ⟨?_, ?_, ?_⟩
    · intro y0 y1 y2 y3
      unfold palaverref01_Number.l0
      repeat' first
      | (with_reducible exact ih0 _ _ _ _)
      | (with_reducible exact ih1 _ _ _)
      | (with_reducible exact ih2 _ _ _ _)
      | (with_reducible exact LeO.refl _)
      | (with_reducible exact LeO.none _)
      | (with_reducible refine LeO.ite ?_ ?_)
      | (with_reducible refine LeO.bind ?_ (fun _ => ?_))
      | exact ih0 _ _ _ _
      | exact ih1 _ _ _
      | exact ih2 _ _ _ _
      | exact LeO.none _
      | refine LeO.ite ?_ ?_
      | refine LeO.bind ?_ (fun _ => ?_)
    · intro y0 y1 y2
      unfold palaverref01_Number.j1
      repeat' first
      | (with_reducible exact ih0 _ _ _ _)
      | (with_reducible exact ih1 _ _ _)
      | (with_reducible exact ih2 _ _ _ _)
      | (with_reducible exact LeO.refl _)
      | (with_reducible exact LeO.none _)
      | (with_reducible refine LeO.ite ?_ ?_)
      | (with_reducible refine LeO.bind ?_ (fun _ => ?_))
      | exact ih0 _ _ _ _
      | exact ih1 _ _ _
      | exact ih2 _ _ _ _
      | exact LeO.none _
      | refine LeO.ite ?_ ?_
      | refine LeO.bind ?_ (fun _ => ?_)
    · intro y0 y1 y2 y3
      unfold palaverref01_Number.l1
      repeat' first
      | (with_reducible exact ih0 _ _ _ _)
      | (with_reducible exact ih1 _ _ _)
      | (with_reducible exact ih2 _ _ _ _)
      | (with_reducible exact LeO.refl _)
      | (with_reducible exact LeO.none _)
      | (with_reducible refine LeO.ite ?_ ?_)
      | (with_reducible refine LeO.bind ?_ (fun _ => ?_))
      | exact ih0 _ _ _ _
      | exact ih1 _ _ _
      | exact ih2 _ _ _ _
      | exact LeO.none _
      | refine LeO.ite ?_ ?_
      | refine LeO.bind ?_ (fun _ => ?_)
theorem palaverref01_Number.mono : ∀ a0 a1 k, LeO (palaverref01_Number.f k a0 a1) (palaverref01_Number.f (k + 1) a0 a1) := by
  intro a0 a1 k
  obtain ⟨ih0, ih1, ih2⟩ := palaverref01_Number.mono_l k
  unfold palaverref01_Number.f
  repeat' first
      | (with_reducible exact ih0 _ _ _ _)
      | (with_reducible exact ih1 _ _ _)
      | (with_reducible exact ih2 _ _ _ _)
      | (with_reducible exact LeO.refl _)
      | (with_reducible exact LeO.none _)
      | (with_reducible refine LeO.ite ?_ ?_)
      | (with_reducible refine LeO.bind ?_ (fun _ => ?_))
      | exact ih0 _ _ _ _
      | exact ih1 _ _ _
      | exact ih2 _ _ _ _
      | exact LeO.none _
      | refine LeO.ite ?_ ?_
      | refine LeO.bind ?_ (fun _ => ?_)
set_option maxHeartbeats 64000000 in
set_option maxRecDepth 100000 in
theorem palaverref01_Number.calls (k : Nat) (a0 : Int) (a1 : Int) (r1 : ByteArray) (r2 : Bool) (w : World) (h : palaverref01_Number.f k a0 a1 = some (r1, r2)) :
    Calls Try.prog 38 #[.int .i64 a0, .int .i64 a1] w fun e w' => e = .returned (.tuple #[.string r1, .bool r2]) ∧ Below w.heap.size w w' := by
  have HB := Aside0.mk (Below.refl w.heap.size w)
  have H : (palaverref01_Number.l0 k a0 a1 1 0) = some (r1, r2) := h
  clear h
  have H' := Aside0.mk H
  clear H
  go_enter Try.func38, Try.ntmps38
  go_wp2
  go_loopg [6, 7] k (fun kq v6 v7 w' => ∃ (x6_1 : Int) (x7_1 : Int), v6 = .int .i64 x6_1 ∧ v7 = .int .i64 x7_1 ∧ Aside0 (palaverref01_Number.l0 kq a0 a1 x6_1 x7_1 = some (r1, r2)) ∧ Aside0 (kq ≤ k) ∧ Aside0 (Below w.heap.size w w'))
  case atStart => exact ⟨(1), (0), (by first | rfl | (simp; done) | (simp [*]; done) | exact congrArg Value.bool (nonempty_l _) | (refine congrArg (Value.int _) ?_; first | omega | (unfold Go.RowKit.wrap64; omega))), (by first | rfl | (simp; done) | (simp [*]; done) | exact congrArg Value.bool (nonempty_l _) | (refine congrArg (Value.int _) ?_; first | omega | (unfold Go.RowKit.wrap64; omega))), H', ⟨Nat.le_refl _⟩, ⟨by repeat (first | (with_reducible first | exact HB.out | apply below_alloc | apply pw_below_drewN | apply below_drew1) | exact HB.out)⟩⟩
  case round =>
    clear H'
    try clear p2
    obtain ⟨x6_1, x7_1, rfl, rfl, HA, HK1, HB⟩ := hrel
    cases gk with
    | zero => exact absurd HA.out (by simp [palaverref01_Number.l0])
    | succ k1 =>
      have H := HA.out
      clear HA
      simp only [palaverref01_Number.l0] at H
      by_cases c3 : x7_1 < a1
      · rw [if_pos c3] at H
        have c3b0 : decide (x7_1 < a1) = true := decide_eq_true c3
        clear c3
        have H' := Aside0.mk H
        clear H
        go_wp2
        go_roundg k1
        case measure => have := HK1.out; omega
        case rel => exact ⟨(wrap64 (256 * x6_1)), (wrap64 (x7_1 + 1)), (by first | rfl | (simp; done) | (simp [*]; done) | exact congrArg Value.bool (nonempty_l _) | (refine congrArg (Value.int _) ?_; first | omega | (unfold Go.RowKit.wrap64; omega))), (by first | rfl | (simp; done) | (simp [*]; done) | exact congrArg Value.bool (nonempty_l _) | (refine congrArg (Value.int _) ?_; first | omega | (unfold Go.RowKit.wrap64; omega))), H', ⟨by have := HK1.out; omega⟩, ⟨by repeat (first | (with_reducible first | exact HB.out | apply below_alloc | apply pw_below_drewN | apply below_drew1) | exact HB.out)⟩⟩
      · rw [if_neg c3] at H
        have c3b0 : decide (x7_1 < a1) = false := decide_eq_false c3
        clear c3
        have HC4 := Aside0.mk H
        clear H
        go_upto_region 6 with (fail)
        go_cut [23] (fun v23 wc => ∃ (kq : Nat) (x23_3 : Bool), v23 = .bool x23_3 ∧ Aside0 (palaverref01_Number.j1 kq a0 a1 x23_3 = some (r1, r2)) ∧ Aside0 (kq ≤ k1) ∧ Aside0 (Below w.heap.size w wc))
        case first =>
          have H := HC4.out
          clear HC4
          by_cases c5 : a0 < 0
          · rw [if_pos c5] at H
            have c5b0 : decide (a0 < 0) = true := decide_eq_true c5
            clear c5
            (first | rw [c5b0] | (simp only [i64_w, i32_w]; rw [c5b0]) | skip)
            have H' := Aside0.mk H
            clear H
            go_wp2
            go_meet
            case rel => exact ⟨_, (true), (by first | rfl | (simp; done) | (simp [*]; done) | exact congrArg Value.bool (nonempty_l _) | (refine congrArg (Value.int _) ?_; first | omega | (unfold Go.RowKit.wrap64; omega))), H', ⟨by have := HK1.out; first | omega | exact Nat.le_refl _⟩, ⟨by repeat (first | (with_reducible first | exact HB.out | apply below_alloc | apply pw_below_drewN | apply below_drew1) | exact HB.out)⟩⟩
          · rw [if_neg c5] at H
            have c5b0 : decide (a0 < 0) = false := decide_eq_false c5
            clear c5
            (first | rw [c5b0] | (simp only [i64_w, i32_w]; rw [c5b0]) | skip)
            have H' := Aside0.mk H
            clear H
            go_wp2
            go_meet
            case rel => exact ⟨_, (decide (a0 ≥ x6_1)), (by first | rfl | (simp; done) | (simp [*]; done) | exact congrArg Value.bool (nonempty_l _) | (refine congrArg (Value.int _) ?_; first | omega | (unfold Go.RowKit.wrap64; omega))), H', ⟨by have := HK1.out; first | omega | exact Nat.le_refl _⟩, ⟨by repeat (first | (with_reducible first | exact HB.out | apply below_alloc | apply pw_below_drewN | apply below_drew1) | exact HB.out)⟩⟩
        case rest =>
          clear HC4
          try clear p2
          try clear c3
          try clear c3b0
          try clear c5
          try clear c5b0
          try clear p2
          obtain ⟨kq, x23_3, rfl, HA, HJ3, HB⟩ := hcut
          cases kq with
          | zero => exact absurd HA.out (by simp [palaverref01_Number.j1])
          | succ kj3 =>
            have H := HA.out
            clear HA
            simp only [palaverref01_Number.j1] at H
            by_cases c6 : x23_3 = true
            · subst c6
              have H1 : (some ((⟨#[]⟩ : ByteArray), false)) = some (r1, r2) := by rw [if_pos rfl] at H; exact H
              clear H
              have H := H1
              clear H1
              simp only [Option.some.injEq, Prod.mk.injEq] at H
              obtain ⟨rfl, rfl⟩ := H
              go_wp2
              go_ret2
              exact ⟨by first | rfl | (simp [errW_none, errW_some] <;> rfl) | (simp [*, errW_none, errW_some] <;> rfl), by repeat (first | (with_reducible first | exact HB.out | apply below_alloc | apply pw_below_drewN | apply below_drew1) | exact HB.out)⟩
            · replace c6 := Bool.eq_false_iff.mpr c6
              subst c6
              have H1 : (palaverref01_Number.l1 kj3 a0 a1 (⟨#[]⟩ : ByteArray) 0) = some (r1, r2) := by rw [if_neg (show ¬ (false = true) by decide)] at H; exact H
              clear H
              have H := H1
              clear H1
              have H' := Aside0.mk H
              clear H
              go_wp2
              go_loopg [0, 8, 9] kj3 (fun kq v0 v8 v9 w' => ∃ (x0_3 : Int) (x8_3 : ByteArray) (x9_3 : Int), v0 = .int .i64 x0_3 ∧ v8 = .string x8_3 ∧ v9 = .int .i64 x9_3 ∧ Aside0 (palaverref01_Number.l1 kq x0_3 a1 x8_3 x9_3 = some (r1, r2)) ∧ Aside0 (kq ≤ kj3) ∧ Aside0 (Below w.heap.size w w'))
              case atStart => exact ⟨(a0), ((⟨#[]⟩ : ByteArray)), (0), (by first | rfl | (simp; done) | (simp [*]; done) | exact congrArg Value.bool (nonempty_l _) | (refine congrArg (Value.int _) ?_; first | omega | (unfold Go.RowKit.wrap64; omega))), (by first | rfl | (simp; done) | (simp [*]; done) | exact congrArg Value.bool (nonempty_l _) | (refine congrArg (Value.int _) ?_; first | omega | (unfold Go.RowKit.wrap64; omega))), (by first | rfl | (simp; done) | (simp [*]; done) | exact congrArg Value.bool (nonempty_l _) | (refine congrArg (Value.int _) ?_; first | omega | (unfold Go.RowKit.wrap64; omega))), H', ⟨Nat.le_refl _⟩, ⟨by repeat (first | (with_reducible first | exact HB.out | apply below_alloc | apply pw_below_drewN | apply below_drew1) | exact HB.out)⟩⟩
              case round =>
                clear H'
                try clear p2
                try clear c3
                try clear c3b0
                try clear c5
                try clear c5b0
                try clear c6
                try clear p6
                try clear p2
                obtain ⟨x0_3, x8_3, x9_3, rfl, rfl, rfl, HA, HK3, HB⟩ := hrel
                cases gk with
                | zero => exact absurd HA.out (by simp [palaverref01_Number.l1])
                | succ k3 =>
                  have H := HA.out
                  clear HA
                  simp only [palaverref01_Number.l1] at H
                  by_cases c7 : x9_3 < a1
                  · rw [if_pos c7] at H
                    have c7b0 : decide (x9_3 < a1) = true := decide_eq_true c7
                    clear c7
                    obtain ⟨y141, hy141⟩ : ∃ y_ : List Int, y_ = (([(Int.tmod x0_3 256) % 256] : List Int)) := ⟨_, rfl⟩
                    replace H : (if (strOfNums y141).size + x8_3.size ≤ 9223372036854775807 then (palaverref01_Number.l1 k3 (wrap64 (Int.tdiv x0_3 256)) a1 ((strOfNums y141) ++ x8_3) (wrap64 (x9_3 + 1))) else (none)) = some (r1, r2) := by first | (rw [hy141]; with_reducible exact H) | (have H2_ := (Option.bind_some _ _).symm.trans H; rw [hy141]; with_reducible exact H2_) | (have H2_ := (Option.bind_some _ _).symm.trans H; with_reducible exact H2_) | with_reducible exact H | (rw [hy141]; exact H) | exact H
                    have Ny141 := Aside0.mk hy141
                    clear hy141
                    by_cases c8 : (strOfNums y141).size + x8_3.size ≤ 9223372036854775807
                    · rw [if_pos c8] at H
                      have c8b0 := eq_true c8
                      have c8b1 : decide ((strOfNums y141).size + x8_3.size ≤ 9223372036854775807) = true := decide_eq_true c8
                      try have c8b2 : (9223372036854775807 < (strOfNums y141).size + x8_3.size) = False := eq_false (Nat.not_lt.2 c8)
                      have H' := Aside0.mk H
                      clear H
                      go_wp2_with (first | ((with_reducible refine gate_dst (N := 32) rfl ?_); refine Kd.R_lit (Kd.int .u8) _ 5 ?hg (N := 32) ?hd (xs := ([(Int.tmod x0_3 256) % 256] : List Int)) (inner := [.int .u8 ((Int.tmod x0_3 256) % 256)]) (ok := fun _ => True) (okp := fun _ => True) ?hr ?hp (fun _ hk => hk) trivial (Below.refl _ _) (Nat.le_refl _) (by simp) ?_; (case hd => rfl); (case hg => rfl); (case hr => first | (go_simp; done) | (go_simp; rfl)); (case hp => exact (Reps.one (show Kd.M (Kd.int .u8) _ _ _ ((Int.tmod x0_3 256) % 256) [.int .u8 ((Int.tmod x0_3 256) % 256)] from rfl) (Reps.none _ _))); intro v142 w9 ho10 hb hg_ hnew_; clear hg_ hnew_; (first | rw [← Ny141.out] at ho10 | (simp only [Int.reduceToNat] at ho10; rw [← Ny141.out] at ho10)); have n0_ := Aside0.mk (Kd.R_lower ho10 (below_size (by repeat (first | (with_reducible first | exact HB.out | apply below_alloc | apply pw_below_drewN | apply below_drew1) | exact HB.out)))); have n1_ := Aside0.mk (below_step (by repeat (first | (with_reducible first | exact HB.out | apply below_alloc | apply pw_below_drewN | apply below_drew1) | exact HB.out)) hb); clear HB; have HO143 := n0_; have HB := n1_; clear n0_ n1_; clear hb ho10; have hcv11 := own_string (P := Try.prog) Try.underlying40 Try.underlying5 Try.underlying9 (Kd.own_of_R HO143.out)))
                      go_roundg k3
                      case measure => have := HK1.out; have := HJ3.out; have := HK3.out; omega
                      case rel => exact ⟨(wrap64 (Int.tdiv x0_3 256)), ((strOfNums y141) ++ x8_3), (wrap64 (x9_3 + 1)), (by first | rfl | (simp; done) | (simp [*]; done) | exact congrArg Value.bool (nonempty_l _) | (refine congrArg (Value.int _) ?_; first | omega | (unfold Go.RowKit.wrap64; omega))), (by first | rfl | (simp; done) | (simp [*]; done) | exact congrArg Value.bool (nonempty_l _) | (refine congrArg (Value.int _) ?_; first | omega | (unfold Go.RowKit.wrap64; omega))), (by first | rfl | (simp; done) | (simp [*]; done) | exact congrArg Value.bool (nonempty_l _) | (refine congrArg (Value.int _) ?_; first | omega | (unfold Go.RowKit.wrap64; omega))), H', ⟨by have := HK1.out; have := HJ3.out; have := HK3.out; omega⟩, ⟨by repeat (first | (with_reducible first | exact HB.out | apply below_alloc | apply pw_below_drewN | apply below_drew1) | exact HB.out)⟩⟩
                    · rw [if_neg c8] at H
                      exact absurd H (by simp)
                  · rw [if_neg c7] at H
                    have c7b0 : decide (x9_3 < a1) = false := decide_eq_false c7
                    clear c7
                    simp only [Option.some.injEq, Prod.mk.injEq] at H
                    obtain ⟨rfl, rfl⟩ := H
                    go_wp2
                    go_ret2
                    exact ⟨by first | rfl | (simp [errW_none, errW_some] <;> rfl) | (simp [*, errW_none, errW_some] <;> rfl), by repeat (first | (with_reducible first | exact HB.out | apply below_alloc | apply pw_below_drewN | apply below_drew1) | exact HB.out)⟩

/-! ### palaverref01_Text: function 27 -/
def palaverref01_Text.f (k : Nat) (a0 : ByteArray) : Option (ByteArray × Bool) := (palaverref01_Number.f k (a0.size : Int) 2).bind fun bt144 => (if bt144.2 = true then (if bt144.1.size + a0.size ≤ 9223372036854775807 then (some (bt144.1 ++ a0, true)) else (none)) else (some ((⟨#[]⟩ : ByteArray), false)))
theorem palaverref01_Text.mono : ∀ a0 k, LeO (palaverref01_Text.f k a0) (palaverref01_Text.f (k + 1) a0) := by
  intro a0 k
  unfold palaverref01_Text.f
  repeat' first
      | (with_reducible exact palaverref01_Number.mono _ _ _)
      | (with_reducible exact LeO.refl _)
      | (with_reducible exact LeO.none _)
      | (with_reducible refine LeO.ite ?_ ?_)
      | (with_reducible refine LeO.bind ?_ (fun _ => ?_))
      | exact palaverref01_Number.mono _ _ _
      | exact LeO.none _
      | refine LeO.ite ?_ ?_
      | refine LeO.bind ?_ (fun _ => ?_)
set_option maxHeartbeats 64000000 in
set_option maxRecDepth 100000 in
theorem palaverref01_Text.calls (k : Nat) (a0 : ByteArray) (r1 : ByteArray) (r2 : Bool) (w : World) (h : palaverref01_Text.f k a0 = some (r1, r2)) :
    Calls Try.prog 27 #[.string a0] w fun e w' => e = .returned (.tuple #[.string r1, .bool r2]) ∧ Below w.heap.size w w' := by
  have HB := Aside0.mk (Below.refl w.heap.size w)
  have H : ((palaverref01_Number.f k (a0.size : Int) 2).bind fun bt144 => (if bt144.2 = true then (if bt144.1.size + a0.size ≤ 9223372036854775807 then (some (bt144.1 ++ a0, true)) else (none)) else (some ((⟨#[]⟩ : ByteArray), false)))) = some (r1, r2) := h
  clear h
  replace H := Option.bind_eq_some_iff.mp H
  obtain ⟨⟨t144, t145⟩, A20, H⟩ := H
  replace H : (if t145 = true then (if t144.size + a0.size ≤ 9223372036854775807 then (some (t144 ++ a0, true)) else (none)) else (some ((⟨#[]⟩ : ByteArray), false))) = some (r1, r2) := H
  have A2 := Aside0.mk A20
  clear A20
  by_cases c3 : t145 = true
  · subst c3
    have H1 : (if t144.size + a0.size ≤ 9223372036854775807 then (some (t144 ++ a0, true)) else (none)) = some (r1, r2) := by rw [if_pos rfl] at H; exact H
    clear H
    have H := H1
    clear H1
    by_cases c4 : t144.size + a0.size ≤ 9223372036854775807
    · rw [if_pos c4] at H
      have c4b0 := eq_true c4
      have c4b1 : decide (t144.size + a0.size ≤ 9223372036854775807) = true := decide_eq_true c4
      try have c4b2 : (9223372036854775807 < t144.size + a0.size) = False := eq_false (Nat.not_lt.2 c4)
      simp only [Option.some.injEq, Prod.mk.injEq] at H
      obtain ⟨rfl, rfl⟩ := H
      go_enter Try.func27, Try.ntmps27
      go_wp2_with (first | ((with_reducible refine gate_callee (f := 38) rfl ?_); refine goesL_ (some 9) rfl rfl Try.func38 (by kernel_rfl) rfl #[.int .i64 (a0.size : Int), .int .i64 2] rfl (by (try simp only [List.map_toArray, List.map_cons, List.map_nil]); first | done | rfl | (simp only [List.length_drop, List.length_take]; rfl)) ?_; (with_reducible refine (palaverref01_Number.calls k (a0.size : Int) 2 t144 true _ A2.out).mono ?_); rintro e w5 ⟨rfl, hb⟩; refine ⟨_, rfl, ?_⟩; have n0_ := Aside0.mk (below_step (by repeat (first | (with_reducible first | exact HB.out | apply below_alloc | apply pw_below_drewN | apply below_drew1) | exact HB.out)) hb); clear HB; have HB := n0_; clear n0_; (try clear hb); (try clear hb2); (try clear hk); (try clear hi)))
      go_ret2
      exact ⟨by first | rfl | (simp [errW_none, errW_some] <;> rfl) | (simp [*, errW_none, errW_some] <;> rfl), by repeat (first | (with_reducible first | exact HB.out | apply below_alloc | apply pw_below_drewN | apply below_drew1) | exact HB.out)⟩
    · rw [if_neg c4] at H
      exact absurd H (by simp)
  · replace c3 := Bool.eq_false_iff.mpr c3
    subst c3
    have H1 : (some ((⟨#[]⟩ : ByteArray), false)) = some (r1, r2) := by rw [if_neg (show ¬ (false = true) by decide)] at H; exact H
    clear H
    have H := H1
    clear H1
    simp only [Option.some.injEq, Prod.mk.injEq] at H
    obtain ⟨rfl, rfl⟩ := H
    go_enter Try.func27, Try.ntmps27
    go_wp2_with (first | ((with_reducible refine gate_callee (f := 38) rfl ?_); refine goesL_ (some 9) rfl rfl Try.func38 (by kernel_rfl) rfl #[.int .i64 (a0.size : Int), .int .i64 2] rfl (by (try simp only [List.map_toArray, List.map_cons, List.map_nil]); first | done | rfl | (simp only [List.length_drop, List.length_take]; rfl)) ?_; (with_reducible refine (palaverref01_Number.calls k (a0.size : Int) 2 t144 false _ A2.out).mono ?_); rintro e w6 ⟨rfl, hb⟩; refine ⟨_, rfl, ?_⟩; have n0_ := Aside0.mk (below_step (by repeat (first | (with_reducible first | exact HB.out | apply below_alloc | apply pw_below_drewN | apply below_drew1) | exact HB.out)) hb); clear HB; have HB := n0_; clear n0_; (try clear hb); (try clear hb2); (try clear hk); (try clear hi)))
    go_ret2
    exact ⟨by first | rfl | (simp [errW_none, errW_some] <;> rfl) | (simp [*, errW_none, errW_some] <;> rfl), by repeat (first | (with_reducible first | exact HB.out | apply below_alloc | apply pw_below_drewN | apply below_drew1) | exact HB.out)⟩

/-! ### palaverref07_Encode: function 14 -/
mutual
def palaverref07_Encode.l0 : Nat → ByteArray → Int → Int → Int → List ByteArray → ByteArray → List ByteArray → Option (ByteArray)
  | 0, _, _, _, _, _, _, _ => none
  | k + 1, x3, x6, x147000, x147001, x147002, x147003, x147004 => if x6 < (x147004.length : Int) then (if 0 ≤ x6 then ((palaverref01_Text.f k (rdOf ByteArray.empty x147004 x6)).bind fun bt160 => (if x3.size + bt160.1.size ≤ 9223372036854775807 then (palaverref07_Encode.l0 k (x3 ++ bt160.1) (wrap64 (x6 + 1)) x147000 x147001 x147002 x147003 x147004) else (none))) else (none)) else (some x3)
def palaverref07_Encode.l1 : Nat → ByteArray → Int → Int → Int → List ByteArray → ByteArray → List ByteArray → Option (ByteArray)
  | 0, _, _, _, _, _, _, _ => none
  | k + 1, x3, x9, x147000, x147001, x147002, x147003, x147004 => if x9 < (x147002.length : Int) then (if 0 ≤ x9 then (if x3.size + (rdOf ByteArray.empty x147002 x9).size ≤ 9223372036854775807 then (palaverref07_Encode.l1 k (x3 ++ (rdOf ByteArray.empty x147002 x9)) (wrap64 (x9 + 1)) x147000 x147001 x147002 x147003 x147004) else (none)) else (none)) else (if x147000 = 2 then ((palaverref01_Text.f k x147003).bind fun bt166 => (if x3.size + bt166.1.size ≤ 9223372036854775807 then (some (x3 ++ bt166.1)) else (none))) else (some x3))
end
def palaverref07_Encode.f (k : Nat) (a0_0 : Int) (a0_1 : Int) (l0_2 : List ByteArray) (a0_3 : ByteArray) (l0_4 : List ByteArray) : Option (ByteArray) := (some (([(a0_0) % 256] : List Int) : List Int)).bind fun y147 => (if a0_0 = 5 then (if 0 < (l0_4.length : Int) then ((palaverref01_Text.f k (rdOf ByteArray.empty l0_4 0)).bind fun bt151 => ((some (([(a0_1) % 256] : List Int) : List Int)).bind fun y153 => (if (strOfNums y147).size + (strOfNums y153).size ≤ 9223372036854775807 then (if ((strOfNums y147) ++ (strOfNums y153)).size + bt151.1.size ≤ 9223372036854775807 then (some (((strOfNums y147) ++ (strOfNums y153)) ++ bt151.1)) else (none)) else (none)))) else (none)) else (if a0_0 = 4 then ((some (([((l0_4.length : Int)) % 256] : List Int) : List Int)).bind fun y156 => (if (strOfNums y147).size + (strOfNums y156).size ≤ 9223372036854775807 then (palaverref07_Encode.l0 k ((strOfNums y147) ++ (strOfNums y156)) 0 a0_0 a0_1 l0_2 a0_3 l0_4) else (none))) else ((some (([((l0_2.length : Int)) % 256] : List Int) : List Int)).bind fun y162 => (if (strOfNums y147).size + (strOfNums y162).size ≤ 9223372036854775807 then (palaverref07_Encode.l1 k ((strOfNums y147) ++ (strOfNums y162)) 0 a0_0 a0_1 l0_2 a0_3 l0_4) else (none)))))
theorem palaverref07_Encode.mono_l : ∀ k, (∀ y0 y1 y2 y3 y4 y5 y6, LeO (palaverref07_Encode.l0 k y0 y1 y2 y3 y4 y5 y6) (palaverref07_Encode.l0 (k + 1) y0 y1 y2 y3 y4 y5 y6)) ∧ (∀ y0 y1 y2 y3 y4 y5 y6, LeO (palaverref07_Encode.l1 k y0 y1 y2 y3 y4 y5 y6) (palaverref07_Encode.l1 (k + 1) y0 y1 y2 y3 y4 y5 y6))
  | 0 => ⟨fun _ _ _ _ _ _ _ r h => by simp [palaverref07_Encode.l0] at h, fun _ _ _ _ _ _ _ r h => by simp [palaverref07_Encode.l1] at h⟩
  | k + 1 => by
    obtain ⟨ih0, ih1⟩ := palaverref07_Encode.mono_l k
    refine ⟨?_, ?_⟩
    · intro y0 y1 y2 y3 y4 y5 y6
      unfold palaverref07_Encode.l0
      repeat' first
      | (with_reducible exact ih0 _ _ _ _ _ _ _)
      | (with_reducible exact ih1 _ _ _ _ _ _ _)
      | (with_reducible exact palaverref01_Text.mono _ _)
      | (with_reducible exact LeO.refl _)
      | (with_reducible exact LeO.none _)
      | (with_reducible refine LeO.ite ?_ ?_)
      | (with_reducible refine LeO.bind ?_ (fun _ => ?_))
      | exact ih0 _ _ _ _ _ _ _
      | exact ih1 _ _ _ _ _ _ _
      | exact palaverref01_Text.mono _ _
      | exact LeO.none _
      | refine LeO.ite ?_ ?_
      | refine LeO.bind ?_ (fun _ => ?_)
    · intro y0 y1 y2 y3 y4 y5 y6
      unfold palaverref07_Encode.l1
      repeat' first
      | (with_reducible exact ih0 _ _ _ _ _ _ _)
      | (with_reducible exact ih1 _ _ _ _ _ _ _)
      | (with_reducible exact palaverref01_Text.mono _ _)
      | (with_reducible exact LeO.refl _)
      | (with_reducible exact LeO.none _)
      | (with_reducible refine LeO.ite ?_ ?_)
      | (with_reducible refine LeO.bind ?_ (fun _ => ?_))
      | exact ih0 _ _ _ _ _ _ _
      | exact ih1 _ _ _ _ _ _ _
      | exact palaverref01_Text.mono _ _
      | exact LeO.none _
      | refine LeO.ite ?_ ?_
      | refine LeO.bind ?_ (fun _ => ?_)
theorem palaverref07_Encode.mono : ∀ a0 a1 a2 a3 a4 k, LeO (palaverref07_Encode.f k a0 a1 a2 a3 a4) (palaverref07_Encode.f (k + 1) a0 a1 a2 a3 a4) := by
  intro a0 a1 a2 a3 a4 k
  obtain ⟨ih0, ih1⟩ := palaverref07_Encode.mono_l k
  unfold palaverref07_Encode.f
  repeat' first
      | (with_reducible exact ih0 _ _ _ _ _ _ _)
      | (with_reducible exact ih1 _ _ _ _ _ _ _)
      | (with_reducible exact palaverref01_Text.mono _ _)
      | (with_reducible exact LeO.refl _)
      | (with_reducible exact LeO.none _)
      | (with_reducible refine LeO.ite ?_ ?_)
      | (with_reducible refine LeO.bind ?_ (fun _ => ?_))
      | exact ih0 _ _ _ _ _ _ _
      | exact ih1 _ _ _ _ _ _ _
      | exact palaverref01_Text.mono _ _
      | exact LeO.none _
      | refine LeO.ite ?_ ?_
      | refine LeO.bind ?_ (fun _ => ?_)
set_option maxHeartbeats 64000000 in
set_option maxRecDepth 100000 in
theorem palaverref07_Encode.calls (k : Nat) (a0_0 : Int) (a0_1 : Int) (A0_2 : Option Addr) (c0_2 : Nat) (l0_2 : List ByteArray) (a0_3 : ByteArray) (A0_4 : Option Addr) (c0_4 : Nat) (l0_4 : List ByteArray) (r : ByteArray) (w : World) (hr0_2 : Kd.C Kd.string w A0_2 l0_2.length l0_2) (hc0_2 : l0_2.length ≤ c0_2) (hr0_4 : Kd.C Kd.string w A0_4 l0_4.length l0_4) (hc0_4 : l0_4.length ≤ c0_4) (h : palaverref07_Encode.f k a0_0 a0_1 l0_2 a0_3 l0_4 = some r) :
    Calls Try.prog 14 #[.agg #[.int .i64 a0_0, .int .i64 a0_1, .slice A0_2 l0_2.length c0_2, .string a0_3, .slice A0_4 l0_4.length c0_4]] w fun e w' => e = .returned (.string r) ∧ Below w.heap.size w w' := by
  have hu24 := Try.underlying24
  have HR0_2 := Aside0.mk hr0_2
  have HC0_2 := Aside0.mk hc0_2
  clear hr0_2 hc0_2
  have HR0_4 := Aside0.mk hr0_4
  have HC0_4 := Aside0.mk hc0_4
  clear hr0_4 hc0_4
  have HB := Aside0.mk (Below.refl w.heap.size w)
  have H : ((some (([(a0_0) % 256] : List Int) : List Int)).bind fun y147 => (if a0_0 = 5 then (if 0 < (l0_4.length : Int) then ((palaverref01_Text.f k (rdOf ByteArray.empty l0_4 0)).bind fun bt151 => ((some (([(a0_1) % 256] : List Int) : List Int)).bind fun y153 => (if (strOfNums y147).size + (strOfNums y153).size ≤ 9223372036854775807 then (if ((strOfNums y147) ++ (strOfNums y153)).size + bt151.1.size ≤ 9223372036854775807 then (some (((strOfNums y147) ++ (strOfNums y153)) ++ bt151.1)) else (none)) else (none)))) else (none)) else (if a0_0 = 4 then ((some (([((l0_4.length : Int)) % 256] : List Int) : List Int)).bind fun y156 => (if (strOfNums y147).size + (strOfNums y156).size ≤ 9223372036854775807 then (palaverref07_Encode.l0 k ((strOfNums y147) ++ (strOfNums y156)) 0 a0_0 a0_1 l0_2 a0_3 l0_4) else (none))) else ((some (([((l0_2.length : Int)) % 256] : List Int) : List Int)).bind fun y162 => (if (strOfNums y147).size + (strOfNums y162).size ≤ 9223372036854775807 then (palaverref07_Encode.l1 k ((strOfNums y147) ++ (strOfNums y162)) 0 a0_0 a0_1 l0_2 a0_3 l0_4) else (none)))))) = some r := h
  clear h
  obtain ⟨y147, hy147⟩ : ∃ y_ : List Int, y_ = (([(a0_0) % 256] : List Int)) := ⟨_, rfl⟩
  replace H : (if a0_0 = 5 then (if 0 < (l0_4.length : Int) then ((palaverref01_Text.f k (rdOf ByteArray.empty l0_4 0)).bind fun bt151 => ((some (([(a0_1) % 256] : List Int) : List Int)).bind fun y153 => (if (strOfNums y147).size + (strOfNums y153).size ≤ 9223372036854775807 then (if ((strOfNums y147) ++ (strOfNums y153)).size + bt151.1.size ≤ 9223372036854775807 then (some (((strOfNums y147) ++ (strOfNums y153)) ++ bt151.1)) else (none)) else (none)))) else (none)) else (if a0_0 = 4 then ((some (([((l0_4.length : Int)) % 256] : List Int) : List Int)).bind fun y156 => (if (strOfNums y147).size + (strOfNums y156).size ≤ 9223372036854775807 then (palaverref07_Encode.l0 k ((strOfNums y147) ++ (strOfNums y156)) 0 a0_0 a0_1 l0_2 a0_3 l0_4) else (none))) else ((some (([((l0_2.length : Int)) % 256] : List Int) : List Int)).bind fun y162 => (if (strOfNums y147).size + (strOfNums y162).size ≤ 9223372036854775807 then (palaverref07_Encode.l1 k ((strOfNums y147) ++ (strOfNums y162)) 0 a0_0 a0_1 l0_2 a0_3 l0_4) else (none))))) = some r := by first | (rw [hy147]; with_reducible exact H) | (have H2_ := (Option.bind_some _ _).symm.trans H; rw [hy147]; with_reducible exact H2_) | (have H2_ := (Option.bind_some _ _).symm.trans H; with_reducible exact H2_) | with_reducible exact H | (rw [hy147]; exact H) | exact H
  have Ny147 := Aside0.mk hy147
  clear hy147
  by_cases c2 : a0_0 = 5
  · rw [if_pos c2] at H
    have c2b0 : (a0_0 == 5) = true := beq_iff_eq.mpr c2
    have c2b1 : (a0_0 != 5) = false := bne_eq_false_iff_eq.mpr c2
    clear c2
    by_cases c3 : 0 < (l0_4.length : Int)
    · rw [if_pos c3] at H
      have c3b0 : decide (0 < (l0_4.length : Int)) = true := decide_eq_true c3
      have c3b1 : decide (0 < l0_4.length) = true := decide_eq_true (by omega)
      clear c3
      replace H := Option.bind_eq_some_iff.mp H
      obtain ⟨⟨t151, t152⟩, A40, H⟩ := H
      replace H : ((some (([(a0_1) % 256] : List Int) : List Int)).bind fun y153 => (if (strOfNums y147).size + (strOfNums y153).size ≤ 9223372036854775807 then (if ((strOfNums y147) ++ (strOfNums y153)).size + t151.size ≤ 9223372036854775807 then (some (((strOfNums y147) ++ (strOfNums y153)) ++ t151)) else (none)) else (none))) = some r := H
      have A4 := Aside0.mk A40
      clear A40
      obtain ⟨y153, hy153⟩ : ∃ y_ : List Int, y_ = (([(a0_1) % 256] : List Int)) := ⟨_, rfl⟩
      replace H : (if (strOfNums y147).size + (strOfNums y153).size ≤ 9223372036854775807 then (if ((strOfNums y147) ++ (strOfNums y153)).size + t151.size ≤ 9223372036854775807 then (some (((strOfNums y147) ++ (strOfNums y153)) ++ t151)) else (none)) else (none)) = some r := by first | (rw [hy153]; with_reducible exact H) | (have H2_ := (Option.bind_some _ _).symm.trans H; rw [hy153]; with_reducible exact H2_) | (have H2_ := (Option.bind_some _ _).symm.trans H; with_reducible exact H2_) | with_reducible exact H | (rw [hy153]; exact H) | exact H
      have Ny153 := Aside0.mk hy153
      clear hy153
      by_cases c5 : (strOfNums y147).size + (strOfNums y153).size ≤ 9223372036854775807
      · rw [if_pos c5] at H
        have c5b0 := eq_true c5
        have c5b1 : decide ((strOfNums y147).size + (strOfNums y153).size ≤ 9223372036854775807) = true := decide_eq_true c5
        try have c5b2 : (9223372036854775807 < (strOfNums y147).size + (strOfNums y153).size) = False := eq_false (Nat.not_lt.2 c5)
        by_cases c6 : ((strOfNums y147) ++ (strOfNums y153)).size + t151.size ≤ 9223372036854775807
        · rw [if_pos c6] at H
          have c6b0 := eq_true c6
          have c6b1 : decide (((strOfNums y147) ++ (strOfNums y153)).size + t151.size ≤ 9223372036854775807) = true := decide_eq_true c6
          try have c6b2 : (9223372036854775807 < ((strOfNums y147) ++ (strOfNums y153)).size + t151.size) = False := eq_false (Nat.not_lt.2 c6)
          obtain rfl := Option.some.inj H
          go_enter Try.func14, Try.ntmps14
          go_wp2_with (first | ((with_reducible refine gate_dst (N := 1) rfl ?_); refine box_event ?hg (N := 1) ?hd (cs := #[.int .i64 a0_0, .int .i64 a0_1, .slice A0_2 l0_2.length c0_2, .string a0_3, .slice A0_4 l0_4.length c0_4]) (t := 24) ?hr ?_; (case hd => rfl); (case hg => rfl); (case hr => first | (go_simp; done) | (go_simp; rfl)); intro gb146 hg w7 hbox hb; have n0_ := Aside0.mk (below_step (by repeat (first | (with_reducible first | exact HB.out | apply below_alloc | apply pw_below_drewN | apply below_drew1) | exact HB.out)) hb); have n1_ := Aside0.mk (hbox); have n2_ := Aside0.mk ((by rw [hg]; exact (below_size (by repeat (first | (with_reducible first | exact HB.out | apply below_alloc | apply pw_below_drewN | apply below_drew1) | exact HB.out))) : w.heap.size ≤ gb146)); have n3_ := Aside0.mk ((by rw [hg]; exact (below_size (by repeat (first | (with_reducible first | exact HB.out | apply below_alloc | apply pw_below_drewN | apply below_drew1) | exact HB.out))) : w.heap.size ≤ gb146)); clear HB; have HB := n0_; have BK146 := n1_; have GW146 := n2_; have GE146 := n3_; clear n0_ n1_ n2_ n3_; clear hb hbox hg; have hcz8_0 : w7.cell? ⟨gb146, 0, none⟩ = some (.int .i64 a0_0) := (blk_cell BK146.out 0).trans rfl; have hcz8_1 : w7.cell? ⟨gb146, 1, none⟩ = some (.int .i64 a0_1) := (blk_cell BK146.out 1).trans rfl; have hcz8_2 : w7.cell? ⟨gb146, 2, none⟩ = some (.slice A0_2 l0_2.length c0_2) := (blk_cell BK146.out 2).trans rfl; have hcz8_3 : w7.cell? ⟨gb146, 3, none⟩ = some (.string a0_3) := (blk_cell BK146.out 3).trans rfl; have hcz8_4 : w7.cell? ⟨gb146, 4, none⟩ = some (.slice A0_4 l0_4.length c0_4) := (blk_cell BK146.out 4).trans rfl; have hfz8_0 := blk_frozen BK146.out 0; have hfz8_1 := blk_frozen BK146.out 1; have hfz8_2 := blk_frozen BK146.out 2; have hfz8_3 := blk_frozen BK146.out 3; have hfz8_4 := blk_frozen BK146.out 4) | ((with_reducible refine gate_dst (N := 15) rfl ?_); refine Kd.R_lit (Kd.int .u8) _ 5 ?hg (N := 15) ?hd (xs := ([(a0_0) % 256] : List Int)) (inner := [.int .u8 ((a0_0) % 256)]) (ok := fun _ => True) (okp := fun _ => True) ?hr ?hp (fun _ hk => hk) trivial (Below.refl _ _) (Nat.le_refl _) (by simp) ?_; (case hd => rfl); (case hg => rfl); (case hr => first | (go_simp; done) | (go_simp; rfl)); (case hp => exact (Reps.one (show Kd.M (Kd.int .u8) _ _ _ ((a0_0) % 256) [.int .u8 ((a0_0) % 256)] from rfl) (Reps.none _ _))); intro v148 w9 ho10 hb hg_ hnew_; clear hg_ hnew_; (first | rw [← Ny147.out] at ho10 | (simp only [Int.reduceToNat] at ho10; rw [← Ny147.out] at ho10)); have n0_ := Aside0.mk (Kd.R_lower ho10 (below_size (by repeat (first | (with_reducible first | exact HB.out | apply below_alloc | apply pw_below_drewN | apply below_drew1 | refine below_set ?_ GE146.out) | exact HB.out)))); have n1_ := Aside0.mk (blk_below (g := gb146) (o := .cells #[.int .i64 a0_0, .int .i64 a0_1, .slice A0_2 l0_2.length c0_2, .string a0_3, .slice A0_4 l0_4.length c0_4] 24 (0, 0)) (by (with_reducible repeat (first | refine blk_drewN ?_ _ | refine blk_drew ?_ | refine blk_alloc ?_ _)); exact BK146.out) hb); have n2_ := Aside0.mk (below_step (by repeat (first | (with_reducible first | exact HB.out | apply below_alloc | apply pw_below_drewN | apply below_drew1 | refine below_set ?_ GE146.out) | exact HB.out)) hb); clear BK146; clear HB; have HO149 := n0_; have BK146 := n1_; have HB := n2_; clear n0_ n1_ n2_; clear hb ho10; have hcv11 := own_string (P := Try.prog) Try.underlying40 Try.underlying5 Try.underlying9 (Kd.own_of_R HO149.out); have hcz12_0 : w9.cell? ⟨gb146, 0, none⟩ = some (.int .i64 a0_0) := (blk_cell BK146.out 0).trans rfl; have hcz12_1 : w9.cell? ⟨gb146, 1, none⟩ = some (.int .i64 a0_1) := (blk_cell BK146.out 1).trans rfl; have hcz12_2 : w9.cell? ⟨gb146, 2, none⟩ = some (.slice A0_2 l0_2.length c0_2) := (blk_cell BK146.out 2).trans rfl; have hcz12_3 : w9.cell? ⟨gb146, 3, none⟩ = some (.string a0_3) := (blk_cell BK146.out 3).trans rfl; have hcz12_4 : w9.cell? ⟨gb146, 4, none⟩ = some (.slice A0_4 l0_4.length c0_4) := (blk_cell BK146.out 4).trans rfl; have hfz12_0 := blk_frozen BK146.out 0; have hfz12_1 := blk_frozen BK146.out 1; have hfz12_2 := blk_frozen BK146.out 2; have hfz12_3 := blk_frozen BK146.out 3; have hfz12_4 := blk_frozen BK146.out 4; have p150 : 0 ≤ (0 : Int) := (by omega); have q150 : 0 < (l0_4.length : Int) := of_decide_eq_true (by first | (with_reducible assumption) | assumption); obtain ⟨ad150, e150, hx150_0⟩ := Kd.at_string HR0_4.out 0 p150 q150; cases e150; have qi150 : (0 < l0_4.length) = True := eq_true (by omega); (try rw [show ((0 : Int)).toNat = 0 from rfl] at hx150_0); (try rw [Addr.add_zero'] at hx150_0); replace hx150_0 := (HB.out.cell (World.block_lt_of_cell? w _ hx150_0)).trans hx150_0; replace p150 := eq_true p150; replace q150 := eq_true q150) | ((with_reducible refine gate_callee (f := 27) rfl ?_); refine goesL_ (some 25) rfl rfl Try.func27 (by kernel_rfl) rfl #[.string (rdOf ByteArray.empty l0_4 0)] rfl (by (try simp only [List.map_toArray, List.map_cons, List.map_nil]); first | done | rfl | (simp only [List.length_drop, List.length_take]; rfl)) ?_; (with_reducible refine (palaverref01_Text.calls k (rdOf ByteArray.empty l0_4 0) t151 t152 _ A4.out).mono ?_); rintro e w13 ⟨rfl, hb⟩; refine ⟨_, rfl, ?_⟩; have n0_ := Aside0.mk (Kd.R_below (by (with_reducible repeat (first | apply Kd.R_alloc | apply Kd.R_drewN | apply Kd.R_drew)); exact HO149.out) hb); have n1_ := Aside0.mk (blk_below (g := gb146) (o := .cells #[.int .i64 a0_0, .int .i64 a0_1, .slice A0_2 l0_2.length c0_2, .string a0_3, .slice (some ad150) l0_4.length c0_4] 24 (0, 0)) (by (with_reducible repeat (first | refine blk_drewN ?_ _ | refine blk_drew ?_ | refine blk_alloc ?_ _)); exact BK146.out) hb); have n2_ := Aside0.mk (below_step (by repeat (first | (with_reducible first | exact HB.out | apply below_alloc | apply pw_below_drewN | apply below_drew1 | refine below_set ?_ GE146.out) | exact HB.out)) hb); clear HO149; clear BK146; clear HB; have HO149 := n0_; have BK146 := n1_; have HB := n2_; clear n0_ n1_ n2_; (try clear hb); (try clear hb2); (try clear hk); (try clear hi); have hcz14_0 : w13.cell? ⟨gb146, 0, none⟩ = some (.int .i64 a0_0) := (blk_cell BK146.out 0).trans rfl; have hcz14_1 : w13.cell? ⟨gb146, 1, none⟩ = some (.int .i64 a0_1) := (blk_cell BK146.out 1).trans rfl; have hcz14_2 : w13.cell? ⟨gb146, 2, none⟩ = some (.slice A0_2 l0_2.length c0_2) := (blk_cell BK146.out 2).trans rfl; have hcz14_3 : w13.cell? ⟨gb146, 3, none⟩ = some (.string a0_3) := (blk_cell BK146.out 3).trans rfl; have hcz14_4 : w13.cell? ⟨gb146, 4, none⟩ = some (.slice (some ad150) l0_4.length c0_4) := (blk_cell BK146.out 4).trans rfl; have hfz14_0 := blk_frozen BK146.out 0; have hfz14_1 := blk_frozen BK146.out 1; have hfz14_2 := blk_frozen BK146.out 2; have hfz14_3 := blk_frozen BK146.out 3; have hfz14_4 := blk_frozen BK146.out 4) | ((with_reducible refine gate_dst (N := 32) rfl ?_); refine Kd.R_lit (Kd.int .u8) _ 5 ?hg (N := 32) ?hd (xs := ([(a0_1) % 256] : List Int)) (inner := [.int .u8 ((a0_1) % 256)]) (ok := fun _ => True) (okp := fun _ => True) ?hr ?hp (fun _ hk => hk) trivial (Below.refl _ _) (Nat.le_refl _) (by simp) ?_; (case hd => rfl); (case hg => rfl); (case hr => first | (go_simp; done) | (go_simp; rfl)); (case hp => exact (Reps.one (show Kd.M (Kd.int .u8) _ _ _ ((a0_1) % 256) [.int .u8 ((a0_1) % 256)] from rfl) (Reps.none _ _))); intro v154 w15 ho16 hb hg_ hnew_; clear hg_ hnew_; (first | rw [← Ny153.out] at ho16 | (simp only [Int.reduceToNat] at ho16; rw [← Ny153.out] at ho16)); have n0_ := Aside0.mk (Kd.R_elder' (by (with_reducible repeat (first | apply Kd.R_alloc | apply Kd.R_drewN | apply Kd.R_drew)); exact HO149.out) (Kd.R_base ho16) hb); have n1_ := Aside0.mk (Kd.R_lower (Kd.R_new' ho16 (Kd.R_lt (by (with_reducible repeat (first | apply Kd.R_alloc | apply Kd.R_drewN | apply Kd.R_drew)); exact HO149.out))) (below_size (by repeat (first | (with_reducible first | exact HB.out | apply below_alloc | apply pw_below_drewN | apply below_drew1 | refine below_set ?_ GE146.out) | exact HB.out)))); have n2_ := Aside0.mk (blk_below (g := gb146) (o := .cells #[.int .i64 a0_0, .int .i64 a0_1, .slice A0_2 l0_2.length c0_2, .string a0_3, .slice (some ad150) l0_4.length c0_4] 24 (0, 0)) (by (with_reducible repeat (first | refine blk_drewN ?_ _ | refine blk_drew ?_ | refine blk_alloc ?_ _)); exact BK146.out) hb); have n3_ := Aside0.mk (below_step (by repeat (first | (with_reducible first | exact HB.out | apply below_alloc | apply pw_below_drewN | apply below_drew1 | refine below_set ?_ GE146.out) | exact HB.out)) hb); clear HO149; clear BK146; clear HB; have HO149 := n0_; have HO155 := n1_; have BK146 := n2_; have HB := n3_; clear n0_ n1_ n2_ n3_; clear hb ho16; have hcv17 := own_string (P := Try.prog) Try.underlying40 Try.underlying5 Try.underlying9 (Kd.own_of_R HO155.out)))
          go_ret
          exact ⟨by first | rfl | (simp [errW_none, errW_some] <;> rfl) | (simp [*, errW_none, errW_some] <;> rfl), by repeat (first | (with_reducible first | exact HB.out | apply below_alloc | apply pw_below_drewN | apply below_drew1 | refine below_set ?_ GE146.out) | exact HB.out)⟩
        · rw [if_neg c6] at H
          exact absurd H (by simp)
      · rw [if_neg c5] at H
        exact absurd H (by simp)
    · rw [if_neg c3] at H
      exact absurd H (by simp)
  · rw [if_neg c2] at H
    have c2b0 : (a0_0 == 5) = false := beq_eq_false_iff_ne.mpr c2
    have c2b1 : (a0_0 != 5) = true := bne_iff_ne.mpr c2
    by_cases c18 : a0_0 = 4
    · rw [if_pos c18] at H
      have c18b0 : (a0_0 == 4) = true := beq_iff_eq.mpr c18
      have c18b1 : (a0_0 != 4) = false := bne_eq_false_iff_eq.mpr c18
      clear c18
      obtain ⟨y156, hy156⟩ : ∃ y_ : List Int, y_ = (([((l0_4.length : Int)) % 256] : List Int)) := ⟨_, rfl⟩
      replace H : (if (strOfNums y147).size + (strOfNums y156).size ≤ 9223372036854775807 then (palaverref07_Encode.l0 k ((strOfNums y147) ++ (strOfNums y156)) 0 a0_0 a0_1 l0_2 a0_3 l0_4) else (none)) = some r := by first | (rw [hy156]; with_reducible exact H) | (have H2_ := (Option.bind_some _ _).symm.trans H; rw [hy156]; with_reducible exact H2_) | (have H2_ := (Option.bind_some _ _).symm.trans H; with_reducible exact H2_) | with_reducible exact H | (rw [hy156]; exact H) | exact H
      have Ny156 := Aside0.mk hy156
      clear hy156
      by_cases c19 : (strOfNums y147).size + (strOfNums y156).size ≤ 9223372036854775807
      · rw [if_pos c19] at H
        have c19b0 := eq_true c19
        have c19b1 : decide ((strOfNums y147).size + (strOfNums y156).size ≤ 9223372036854775807) = true := decide_eq_true c19
        try have c19b2 : (9223372036854775807 < (strOfNums y147).size + (strOfNums y156).size) = False := eq_false (Nat.not_lt.2 c19)
        have H' := Aside0.mk H
        clear H
        go_enter Try.func14, Try.ntmps14
        go_wp2_with (first | ((with_reducible refine gate_dst (N := 1) rfl ?_); refine box_event ?hg (N := 1) ?hd (cs := #[.int .i64 a0_0, .int .i64 a0_1, .slice A0_2 l0_2.length c0_2, .string a0_3, .slice A0_4 l0_4.length c0_4]) (t := 24) ?hr ?_; (case hd => rfl); (case hg => rfl); (case hr => first | (go_simp; done) | (go_simp; rfl)); intro gb146 hg w20 hbox hb; have n0_ := Aside0.mk (below_step (by repeat (first | (with_reducible first | exact HB.out | apply below_alloc | apply pw_below_drewN | apply below_drew1) | exact HB.out)) hb); have n1_ := Aside0.mk (hbox); have n2_ := Aside0.mk ((by rw [hg]; exact (below_size (by repeat (first | (with_reducible first | exact HB.out | apply below_alloc | apply pw_below_drewN | apply below_drew1) | exact HB.out))) : w.heap.size ≤ gb146)); have n3_ := Aside0.mk ((by rw [hg]; exact (below_size (by repeat (first | (with_reducible first | exact HB.out | apply below_alloc | apply pw_below_drewN | apply below_drew1) | exact HB.out))) : w.heap.size ≤ gb146)); clear HB; have HB := n0_; have BK146 := n1_; have GW146 := n2_; have GE146 := n3_; clear n0_ n1_ n2_ n3_; clear hb hbox hg; have hcz21_0 : w20.cell? ⟨gb146, 0, none⟩ = some (.int .i64 a0_0) := (blk_cell BK146.out 0).trans rfl; have hcz21_1 : w20.cell? ⟨gb146, 1, none⟩ = some (.int .i64 a0_1) := (blk_cell BK146.out 1).trans rfl; have hcz21_2 : w20.cell? ⟨gb146, 2, none⟩ = some (.slice A0_2 l0_2.length c0_2) := (blk_cell BK146.out 2).trans rfl; have hcz21_3 : w20.cell? ⟨gb146, 3, none⟩ = some (.string a0_3) := (blk_cell BK146.out 3).trans rfl; have hcz21_4 : w20.cell? ⟨gb146, 4, none⟩ = some (.slice A0_4 l0_4.length c0_4) := (blk_cell BK146.out 4).trans rfl; have hfz21_0 := blk_frozen BK146.out 0; have hfz21_1 := blk_frozen BK146.out 1; have hfz21_2 := blk_frozen BK146.out 2; have hfz21_3 := blk_frozen BK146.out 3; have hfz21_4 := blk_frozen BK146.out 4) | ((with_reducible refine gate_dst (N := 15) rfl ?_); refine Kd.R_lit (Kd.int .u8) _ 5 ?hg (N := 15) ?hd (xs := ([(a0_0) % 256] : List Int)) (inner := [.int .u8 ((a0_0) % 256)]) (ok := fun _ => True) (okp := fun _ => True) ?hr ?hp (fun _ hk => hk) trivial (Below.refl _ _) (Nat.le_refl _) (by simp) ?_; (case hd => rfl); (case hg => rfl); (case hr => first | (go_simp; done) | (go_simp; rfl)); (case hp => exact (Reps.one (show Kd.M (Kd.int .u8) _ _ _ ((a0_0) % 256) [.int .u8 ((a0_0) % 256)] from rfl) (Reps.none _ _))); intro v148 w22 ho23 hb hg_ hnew_; clear hg_ hnew_; (first | rw [← Ny147.out] at ho23 | (simp only [Int.reduceToNat] at ho23; rw [← Ny147.out] at ho23)); have n0_ := Aside0.mk (Kd.R_lower ho23 (below_size (by repeat (first | (with_reducible first | exact HB.out | apply below_alloc | apply pw_below_drewN | apply below_drew1 | refine below_set ?_ GE146.out) | exact HB.out)))); have n1_ := Aside0.mk (blk_below (g := gb146) (o := .cells #[.int .i64 a0_0, .int .i64 a0_1, .slice A0_2 l0_2.length c0_2, .string a0_3, .slice A0_4 l0_4.length c0_4] 24 (0, 0)) (by (with_reducible repeat (first | refine blk_drewN ?_ _ | refine blk_drew ?_ | refine blk_alloc ?_ _)); exact BK146.out) hb); have n2_ := Aside0.mk (below_step (by repeat (first | (with_reducible first | exact HB.out | apply below_alloc | apply pw_below_drewN | apply below_drew1 | refine below_set ?_ GE146.out) | exact HB.out)) hb); clear BK146; clear HB; have HO149 := n0_; have BK146 := n1_; have HB := n2_; clear n0_ n1_ n2_; clear hb ho23; have hcv24 := own_string (P := Try.prog) Try.underlying40 Try.underlying5 Try.underlying9 (Kd.own_of_R HO149.out); have hcz25_0 : w22.cell? ⟨gb146, 0, none⟩ = some (.int .i64 a0_0) := (blk_cell BK146.out 0).trans rfl; have hcz25_1 : w22.cell? ⟨gb146, 1, none⟩ = some (.int .i64 a0_1) := (blk_cell BK146.out 1).trans rfl; have hcz25_2 : w22.cell? ⟨gb146, 2, none⟩ = some (.slice A0_2 l0_2.length c0_2) := (blk_cell BK146.out 2).trans rfl; have hcz25_3 : w22.cell? ⟨gb146, 3, none⟩ = some (.string a0_3) := (blk_cell BK146.out 3).trans rfl; have hcz25_4 : w22.cell? ⟨gb146, 4, none⟩ = some (.slice A0_4 l0_4.length c0_4) := (blk_cell BK146.out 4).trans rfl; have hfz25_0 := blk_frozen BK146.out 0; have hfz25_1 := blk_frozen BK146.out 1; have hfz25_2 := blk_frozen BK146.out 2; have hfz25_3 := blk_frozen BK146.out 3; have hfz25_4 := blk_frozen BK146.out 4) | ((with_reducible refine gate_dst (N := 45) rfl ?_); refine Kd.R_lit (Kd.int .u8) _ 5 ?hg (N := 45) ?hd (xs := ([((l0_4.length : Int)) % 256] : List Int)) (inner := [.int .u8 (((l0_4.length : Int)) % 256)]) (ok := fun _ => True) (okp := fun _ => True) ?hr ?hp (fun _ hk => hk) trivial (Below.refl _ _) (Nat.le_refl _) (by simp) ?_; (case hd => rfl); (case hg => rfl); (case hr => first | (go_simp; done) | (go_simp; rfl)); (case hp => exact (Reps.one (show Kd.M (Kd.int .u8) _ _ _ (((l0_4.length : Int)) % 256) [.int .u8 (((l0_4.length : Int)) % 256)] from rfl) (Reps.none _ _))); intro v157 w26 ho27 hb hg_ hnew_; clear hg_ hnew_; (first | rw [← Ny156.out] at ho27 | (simp only [Int.reduceToNat] at ho27; rw [← Ny156.out] at ho27)); have n0_ := Aside0.mk (Kd.R_elder' (by (with_reducible repeat (first | apply Kd.R_alloc | apply Kd.R_drewN | apply Kd.R_drew)); exact HO149.out) (Kd.R_base ho27) hb); have n1_ := Aside0.mk (Kd.R_lower (Kd.R_new' ho27 (Kd.R_lt (by (with_reducible repeat (first | apply Kd.R_alloc | apply Kd.R_drewN | apply Kd.R_drew)); exact HO149.out))) (below_size (by repeat (first | (with_reducible first | exact HB.out | apply below_alloc | apply pw_below_drewN | apply below_drew1 | refine below_set ?_ GE146.out) | exact HB.out)))); have n2_ := Aside0.mk (blk_below (g := gb146) (o := .cells #[.int .i64 a0_0, .int .i64 a0_1, .slice A0_2 l0_2.length c0_2, .string a0_3, .slice A0_4 l0_4.length c0_4] 24 (0, 0)) (by (with_reducible repeat (first | refine blk_drewN ?_ _ | refine blk_drew ?_ | refine blk_alloc ?_ _)); exact BK146.out) hb); have n3_ := Aside0.mk (below_step (by repeat (first | (with_reducible first | exact HB.out | apply below_alloc | apply pw_below_drewN | apply below_drew1 | refine below_set ?_ GE146.out) | exact HB.out)) hb); clear HO149; clear BK146; clear HB; have HO149 := n0_; have HO158 := n1_; have BK146 := n2_; have HB := n3_; clear n0_ n1_ n2_ n3_; clear hb ho27; have hcv28 := own_string (P := Try.prog) Try.underlying40 Try.underlying5 Try.underlying9 (Kd.own_of_R HO158.out)))
        go_loopg [3, 6] k (fun kq v3 v6 w' => ∃ (x3_1 : ByteArray) (x6_1 : Int), v3 = .string x3_1 ∧ v6 = .int .i64 x6_1 ∧ Aside0 (palaverref07_Encode.l0 kq x3_1 x6_1 a0_0 a0_1 l0_2 a0_3 l0_4 = some r) ∧ Aside0 (kq ≤ k) ∧ Aside0 (w'.heap[gb146]? = some (.cells #[.int .i64 a0_0, .int .i64 a0_1, (.slice A0_2 l0_2.length c0_2), .string a0_3, (.slice A0_4 l0_4.length c0_4)] 24 (0, 0))) ∧ Aside0 (Below w.heap.size w w'))
        case atStart => exact ⟨((strOfNums y147) ++ (strOfNums y156)), (0), (by first | rfl | (simp; done) | (simp [*]; done) | exact congrArg Value.bool (nonempty_l _) | (refine congrArg (Value.int _) ?_; first | omega | (unfold Go.RowKit.wrap64; omega))), (by first | rfl | (simp; done) | (simp [*]; done) | exact congrArg Value.bool (nonempty_l _) | (refine congrArg (Value.int _) ?_; first | omega | (unfold Go.RowKit.wrap64; omega))), H', ⟨Nat.le_refl _⟩, ⟨by (with_reducible repeat (first | refine blk_drewN ?_ _ | refine blk_drew ?_ | refine blk_alloc ?_ _)); exact BK146.out⟩, ⟨by repeat (first | (with_reducible first | exact HB.out | apply below_alloc | apply pw_below_drewN | apply below_drew1 | refine below_set ?_ GE146.out) | exact HB.out)⟩⟩
        case round =>
          clear H'
          try clear c1
          try clear p1
          try clear q1
          try clear hx1
          try clear hcv1
          try clear qi1
          try clear c2
          try clear c2b0
          try clear c2b1
          try clear p2
          try clear hcv2
          try clear c3
          try clear c3b0
          try clear c3b1
          try clear c5
          try clear c5b0
          try clear c5b1
          try clear c5b2
          try clear c6
          try clear c6b0
          try clear c6b1
          try clear c6b2
          try clear p6
          try clear hcv11
          try clear c14
          try clear p15
          try clear q15
          try clear hx15
          try clear qi15
          try clear hcv17
          try clear c18
          try clear c18b0
          try clear c18b1
          try clear c19
          try clear c19b0
          try clear c19b1
          try clear c19b2
          try clear hcv24
          try clear c27
          try clear hcv28
          try clear hcz12_0
          try clear hcz12_1
          try clear hcz12_2
          try clear hcz12_3
          try clear hcz12_4
          try clear hcz14_0
          try clear hcz14_1
          try clear hcz14_2
          try clear hcz14_3
          try clear hcz14_4
          try clear hcz21_0
          try clear hcz21_1
          try clear hcz21_2
          try clear hcz21_3
          try clear hcz21_4
          try clear hcz25_0
          try clear hcz25_1
          try clear hcz25_2
          try clear hcz25_3
          try clear hcz25_4
          try clear hcz8_0
          try clear hcz8_1
          try clear hcz8_2
          try clear hcz8_3
          try clear hcz8_4
          try clear hfz12_0
          try clear hfz12_1
          try clear hfz12_2
          try clear hfz12_3
          try clear hfz12_4
          try clear hfz14_0
          try clear hfz14_1
          try clear hfz14_2
          try clear hfz14_3
          try clear hfz14_4
          try clear hfz21_0
          try clear hfz21_1
          try clear hfz21_2
          try clear hfz21_3
          try clear hfz21_4
          try clear hfz25_0
          try clear hfz25_1
          try clear hfz25_2
          try clear hfz25_3
          try clear hfz25_4
          try clear hfz8_0
          try clear hfz8_1
          try clear hfz8_2
          try clear hfz8_3
          try clear hfz8_4
          try clear hx150_0
          try clear p150
          try clear q150
          obtain ⟨x3_1, x6_1, rfl, rfl, HA, HK1, BK146, HB⟩ := hrel
          cases gk with
          | zero => exact absurd HA.out (by simp [palaverref07_Encode.l0])
          | succ k1 =>
            have H := HA.out
            clear HA
            simp only [palaverref07_Encode.l0] at H
            by_cases c29 : x6_1 < (l0_4.length : Int)
            · rw [if_pos c29] at H
              have c29b0 : decide (x6_1 < (l0_4.length : Int)) = true := decide_eq_true c29
              clear c29
              by_cases c30 : 0 ≤ x6_1
              · rw [if_pos c30] at H
                have c30b0 : decide (0 ≤ x6_1) = true := decide_eq_true c30
                clear c30
                replace H := Option.bind_eq_some_iff.mp H
                obtain ⟨⟨t160, t161⟩, A310, H⟩ := H
                replace H : (if x3_1.size + t160.size ≤ 9223372036854775807 then (palaverref07_Encode.l0 k1 (x3_1 ++ t160) (wrap64 (x6_1 + 1)) a0_0 a0_1 l0_2 a0_3 l0_4) else (none)) = some r := H
                have A31 := Aside0.mk A310
                clear A310
                by_cases c32 : x3_1.size + t160.size ≤ 9223372036854775807
                · rw [if_pos c32] at H
                  have c32b0 := eq_true c32
                  have c32b1 : decide (x3_1.size + t160.size ≤ 9223372036854775807) = true := decide_eq_true c32
                  try have c32b2 : (9223372036854775807 < x3_1.size + t160.size) = False := eq_false (Nat.not_lt.2 c32)
                  have H' := Aside0.mk H
                  clear H
                  have hcz33_0 : wr.cell? ⟨gb146, 0, none⟩ = some (.int .i64 a0_0) := (blk_cell BK146.out 0).trans rfl
                  have hcz33_1 : wr.cell? ⟨gb146, 1, none⟩ = some (.int .i64 a0_1) := (blk_cell BK146.out 1).trans rfl
                  have hcz33_2 : wr.cell? ⟨gb146, 2, none⟩ = some (.slice A0_2 l0_2.length c0_2) := (blk_cell BK146.out 2).trans rfl
                  have hcz33_3 : wr.cell? ⟨gb146, 3, none⟩ = some (.string a0_3) := (blk_cell BK146.out 3).trans rfl
                  have hcz33_4 : wr.cell? ⟨gb146, 4, none⟩ = some (.slice A0_4 l0_4.length c0_4) := (blk_cell BK146.out 4).trans rfl
                  have hfz33_0 := blk_frozen BK146.out 0
                  have hfz33_1 := blk_frozen BK146.out 1
                  have hfz33_2 := blk_frozen BK146.out 2
                  have hfz33_3 := blk_frozen BK146.out 3
                  have hfz33_4 := blk_frozen BK146.out 4
                  have p159 : 0 ≤ (x6_1 : Int) := of_decide_eq_true (by first | (with_reducible assumption) | assumption)
                  have q159 : x6_1 < (l0_4.length : Int) := of_decide_eq_true (by first | (with_reducible assumption) | assumption)
                  obtain ⟨ad159, e159, hx159_0⟩ := Kd.at_string HR0_4.out x6_1 p159 q159
                  cases e159
                  replace hx159_0 := (HB.out.cell (World.block_lt_of_cell? w _ hx159_0)).trans hx159_0
                  replace p159 := eq_true p159
                  replace q159 := eq_true q159
                  go_wp2_with (first | ((with_reducible refine gate_callee (f := 27) rfl ?_); refine goesL_ (some 61) rfl rfl Try.func27 (by kernel_rfl) rfl #[.string (rdOf ByteArray.empty l0_4 x6_1)] rfl (by (try simp only [List.map_toArray, List.map_cons, List.map_nil]); first | done | rfl | (simp only [List.length_drop, List.length_take]; rfl)) ?_; (with_reducible refine (palaverref01_Text.calls k1 (rdOf ByteArray.empty l0_4 x6_1) t160 t161 _ A31.out).mono ?_); rintro e w34 ⟨rfl, hb⟩; refine ⟨_, rfl, ?_⟩; have n0_ := Aside0.mk (blk_below (g := gb146) (o := .cells #[.int .i64 a0_0, .int .i64 a0_1, .slice A0_2 l0_2.length c0_2, .string a0_3, .slice (some ad159) l0_4.length c0_4] 24 (0, 0)) (by (with_reducible repeat (first | refine blk_drewN ?_ _ | refine blk_drew ?_ | refine blk_alloc ?_ _)); exact BK146.out) hb); have n1_ := Aside0.mk (below_step (by repeat (first | (with_reducible first | exact HB.out | apply below_alloc | apply pw_below_drewN | apply below_drew1 | refine below_set ?_ GE146.out) | exact HB.out)) hb); clear BK146; clear HB; have BK146 := n0_; have HB := n1_; clear n0_ n1_; (try clear hb); (try clear hb2); (try clear hk); (try clear hi)))
                  go_roundg k1
                  case measure => have := HK1.out; omega
                  case rel => exact ⟨(x3_1 ++ t160), (wrap64 (x6_1 + 1)), (by first | rfl | (simp; done) | (simp [*]; done) | exact congrArg Value.bool (nonempty_l _) | (refine congrArg (Value.int _) ?_; first | omega | (unfold Go.RowKit.wrap64; omega))), (by first | rfl | (simp; done) | (simp [*]; done) | exact congrArg Value.bool (nonempty_l _) | (refine congrArg (Value.int _) ?_; first | omega | (unfold Go.RowKit.wrap64; omega))), H', ⟨by have := HK1.out; omega⟩, ⟨by (with_reducible repeat (first | refine blk_drewN ?_ _ | refine blk_drew ?_ | refine blk_alloc ?_ _)); exact BK146.out⟩, ⟨by repeat (first | (with_reducible first | exact HB.out | apply below_alloc | apply pw_below_drewN | apply below_drew1 | refine below_set ?_ GE146.out) | exact HB.out)⟩⟩
                · rw [if_neg c32] at H
                  exact absurd H (by simp)
              · rw [if_neg c30] at H
                exact absurd H (by simp)
            · rw [if_neg c29] at H
              have c29b0 : decide (x6_1 < (l0_4.length : Int)) = false := decide_eq_false c29
              clear c29
              obtain rfl := Option.some.inj H
              have hcz35_0 : wr.cell? ⟨gb146, 0, none⟩ = some (.int .i64 a0_0) := (blk_cell BK146.out 0).trans rfl
              have hcz35_1 : wr.cell? ⟨gb146, 1, none⟩ = some (.int .i64 a0_1) := (blk_cell BK146.out 1).trans rfl
              have hcz35_2 : wr.cell? ⟨gb146, 2, none⟩ = some (.slice A0_2 l0_2.length c0_2) := (blk_cell BK146.out 2).trans rfl
              have hcz35_3 : wr.cell? ⟨gb146, 3, none⟩ = some (.string a0_3) := (blk_cell BK146.out 3).trans rfl
              have hcz35_4 : wr.cell? ⟨gb146, 4, none⟩ = some (.slice A0_4 l0_4.length c0_4) := (blk_cell BK146.out 4).trans rfl
              have hfz35_0 := blk_frozen BK146.out 0
              have hfz35_1 := blk_frozen BK146.out 1
              have hfz35_2 := blk_frozen BK146.out 2
              have hfz35_3 := blk_frozen BK146.out 3
              have hfz35_4 := blk_frozen BK146.out 4
              go_wp2
              go_ret
              exact ⟨by first | rfl | (simp [errW_none, errW_some] <;> rfl) | (simp [*, errW_none, errW_some] <;> rfl), by repeat (first | (with_reducible first | exact HB.out | apply below_alloc | apply pw_below_drewN | apply below_drew1 | refine below_set ?_ GE146.out) | exact HB.out)⟩
      · rw [if_neg c19] at H
        exact absurd H (by simp)
    · rw [if_neg c18] at H
      have c18b0 : (a0_0 == 4) = false := beq_eq_false_iff_ne.mpr c18
      have c18b1 : (a0_0 != 4) = true := bne_iff_ne.mpr c18
      obtain ⟨y162, hy162⟩ : ∃ y_ : List Int, y_ = (([((l0_2.length : Int)) % 256] : List Int)) := ⟨_, rfl⟩
      replace H : (if (strOfNums y147).size + (strOfNums y162).size ≤ 9223372036854775807 then (palaverref07_Encode.l1 k ((strOfNums y147) ++ (strOfNums y162)) 0 a0_0 a0_1 l0_2 a0_3 l0_4) else (none)) = some r := by first | (rw [hy162]; with_reducible exact H) | (have H2_ := (Option.bind_some _ _).symm.trans H; rw [hy162]; with_reducible exact H2_) | (have H2_ := (Option.bind_some _ _).symm.trans H; with_reducible exact H2_) | with_reducible exact H | (rw [hy162]; exact H) | exact H
      have Ny162 := Aside0.mk hy162
      clear hy162
      by_cases c36 : (strOfNums y147).size + (strOfNums y162).size ≤ 9223372036854775807
      · rw [if_pos c36] at H
        have c36b0 := eq_true c36
        have c36b1 : decide ((strOfNums y147).size + (strOfNums y162).size ≤ 9223372036854775807) = true := decide_eq_true c36
        try have c36b2 : (9223372036854775807 < (strOfNums y147).size + (strOfNums y162).size) = False := eq_false (Nat.not_lt.2 c36)
        have H' := Aside0.mk H
        clear H
        go_enter Try.func14, Try.ntmps14
        go_wp2_with (first | ((with_reducible refine gate_dst (N := 1) rfl ?_); refine box_event ?hg (N := 1) ?hd (cs := #[.int .i64 a0_0, .int .i64 a0_1, .slice A0_2 l0_2.length c0_2, .string a0_3, .slice A0_4 l0_4.length c0_4]) (t := 24) ?hr ?_; (case hd => rfl); (case hg => rfl); (case hr => first | (go_simp; done) | (go_simp; rfl)); intro gb146 hg w37 hbox hb; have n0_ := Aside0.mk (below_step (by repeat (first | (with_reducible first | exact HB.out | apply below_alloc | apply pw_below_drewN | apply below_drew1) | exact HB.out)) hb); have n1_ := Aside0.mk (hbox); have n2_ := Aside0.mk ((by rw [hg]; exact (below_size (by repeat (first | (with_reducible first | exact HB.out | apply below_alloc | apply pw_below_drewN | apply below_drew1) | exact HB.out))) : w.heap.size ≤ gb146)); have n3_ := Aside0.mk ((by rw [hg]; exact (below_size (by repeat (first | (with_reducible first | exact HB.out | apply below_alloc | apply pw_below_drewN | apply below_drew1) | exact HB.out))) : w.heap.size ≤ gb146)); clear HB; have HB := n0_; have BK146 := n1_; have GW146 := n2_; have GE146 := n3_; clear n0_ n1_ n2_ n3_; clear hb hbox hg; have hcz38_0 : w37.cell? ⟨gb146, 0, none⟩ = some (.int .i64 a0_0) := (blk_cell BK146.out 0).trans rfl; have hcz38_1 : w37.cell? ⟨gb146, 1, none⟩ = some (.int .i64 a0_1) := (blk_cell BK146.out 1).trans rfl; have hcz38_2 : w37.cell? ⟨gb146, 2, none⟩ = some (.slice A0_2 l0_2.length c0_2) := (blk_cell BK146.out 2).trans rfl; have hcz38_3 : w37.cell? ⟨gb146, 3, none⟩ = some (.string a0_3) := (blk_cell BK146.out 3).trans rfl; have hcz38_4 : w37.cell? ⟨gb146, 4, none⟩ = some (.slice A0_4 l0_4.length c0_4) := (blk_cell BK146.out 4).trans rfl; have hfz38_0 := blk_frozen BK146.out 0; have hfz38_1 := blk_frozen BK146.out 1; have hfz38_2 := blk_frozen BK146.out 2; have hfz38_3 := blk_frozen BK146.out 3; have hfz38_4 := blk_frozen BK146.out 4) | ((with_reducible refine gate_dst (N := 15) rfl ?_); refine Kd.R_lit (Kd.int .u8) _ 5 ?hg (N := 15) ?hd (xs := ([(a0_0) % 256] : List Int)) (inner := [.int .u8 ((a0_0) % 256)]) (ok := fun _ => True) (okp := fun _ => True) ?hr ?hp (fun _ hk => hk) trivial (Below.refl _ _) (Nat.le_refl _) (by simp) ?_; (case hd => rfl); (case hg => rfl); (case hr => first | (go_simp; done) | (go_simp; rfl)); (case hp => exact (Reps.one (show Kd.M (Kd.int .u8) _ _ _ ((a0_0) % 256) [.int .u8 ((a0_0) % 256)] from rfl) (Reps.none _ _))); intro v148 w39 ho40 hb hg_ hnew_; clear hg_ hnew_; (first | rw [← Ny147.out] at ho40 | (simp only [Int.reduceToNat] at ho40; rw [← Ny147.out] at ho40)); have n0_ := Aside0.mk (Kd.R_lower ho40 (below_size (by repeat (first | (with_reducible first | exact HB.out | apply below_alloc | apply pw_below_drewN | apply below_drew1 | refine below_set ?_ GE146.out) | exact HB.out)))); have n1_ := Aside0.mk (blk_below (g := gb146) (o := .cells #[.int .i64 a0_0, .int .i64 a0_1, .slice A0_2 l0_2.length c0_2, .string a0_3, .slice A0_4 l0_4.length c0_4] 24 (0, 0)) (by (with_reducible repeat (first | refine blk_drewN ?_ _ | refine blk_drew ?_ | refine blk_alloc ?_ _)); exact BK146.out) hb); have n2_ := Aside0.mk (below_step (by repeat (first | (with_reducible first | exact HB.out | apply below_alloc | apply pw_below_drewN | apply below_drew1 | refine below_set ?_ GE146.out) | exact HB.out)) hb); clear BK146; clear HB; have HO149 := n0_; have BK146 := n1_; have HB := n2_; clear n0_ n1_ n2_; clear hb ho40; have hcv41 := own_string (P := Try.prog) Try.underlying40 Try.underlying5 Try.underlying9 (Kd.own_of_R HO149.out); have hcz42_0 : w39.cell? ⟨gb146, 0, none⟩ = some (.int .i64 a0_0) := (blk_cell BK146.out 0).trans rfl; have hcz42_1 : w39.cell? ⟨gb146, 1, none⟩ = some (.int .i64 a0_1) := (blk_cell BK146.out 1).trans rfl; have hcz42_2 : w39.cell? ⟨gb146, 2, none⟩ = some (.slice A0_2 l0_2.length c0_2) := (blk_cell BK146.out 2).trans rfl; have hcz42_3 : w39.cell? ⟨gb146, 3, none⟩ = some (.string a0_3) := (blk_cell BK146.out 3).trans rfl; have hcz42_4 : w39.cell? ⟨gb146, 4, none⟩ = some (.slice A0_4 l0_4.length c0_4) := (blk_cell BK146.out 4).trans rfl; have hfz42_0 := blk_frozen BK146.out 0; have hfz42_1 := blk_frozen BK146.out 1; have hfz42_2 := blk_frozen BK146.out 2; have hfz42_3 := blk_frozen BK146.out 3; have hfz42_4 := blk_frozen BK146.out 4) | ((with_reducible refine gate_dst (N := 73) rfl ?_); refine Kd.R_lit (Kd.int .u8) _ 5 ?hg (N := 73) ?hd (xs := ([((l0_2.length : Int)) % 256] : List Int)) (inner := [.int .u8 (((l0_2.length : Int)) % 256)]) (ok := fun _ => True) (okp := fun _ => True) ?hr ?hp (fun _ hk => hk) trivial (Below.refl _ _) (Nat.le_refl _) (by simp) ?_; (case hd => rfl); (case hg => rfl); (case hr => first | (go_simp; done) | (go_simp; rfl)); (case hp => exact (Reps.one (show Kd.M (Kd.int .u8) _ _ _ (((l0_2.length : Int)) % 256) [.int .u8 (((l0_2.length : Int)) % 256)] from rfl) (Reps.none _ _))); intro v163 w43 ho44 hb hg_ hnew_; clear hg_ hnew_; (first | rw [← Ny162.out] at ho44 | (simp only [Int.reduceToNat] at ho44; rw [← Ny162.out] at ho44)); have n0_ := Aside0.mk (Kd.R_elder' (by (with_reducible repeat (first | apply Kd.R_alloc | apply Kd.R_drewN | apply Kd.R_drew)); exact HO149.out) (Kd.R_base ho44) hb); have n1_ := Aside0.mk (Kd.R_lower (Kd.R_new' ho44 (Kd.R_lt (by (with_reducible repeat (first | apply Kd.R_alloc | apply Kd.R_drewN | apply Kd.R_drew)); exact HO149.out))) (below_size (by repeat (first | (with_reducible first | exact HB.out | apply below_alloc | apply pw_below_drewN | apply below_drew1 | refine below_set ?_ GE146.out) | exact HB.out)))); have n2_ := Aside0.mk (blk_below (g := gb146) (o := .cells #[.int .i64 a0_0, .int .i64 a0_1, .slice A0_2 l0_2.length c0_2, .string a0_3, .slice A0_4 l0_4.length c0_4] 24 (0, 0)) (by (with_reducible repeat (first | refine blk_drewN ?_ _ | refine blk_drew ?_ | refine blk_alloc ?_ _)); exact BK146.out) hb); have n3_ := Aside0.mk (below_step (by repeat (first | (with_reducible first | exact HB.out | apply below_alloc | apply pw_below_drewN | apply below_drew1 | refine below_set ?_ GE146.out) | exact HB.out)) hb); clear HO149; clear BK146; clear HB; have HO149 := n0_; have HO164 := n1_; have BK146 := n2_; have HB := n3_; clear n0_ n1_ n2_ n3_; clear hb ho44; have hcv45 := own_string (P := Try.prog) Try.underlying40 Try.underlying5 Try.underlying9 (Kd.own_of_R HO164.out)))
        go_loopg [3, 9] k (fun kq v3 v9 w' => ∃ (x3_1 : ByteArray) (x9_1 : Int), v3 = .string x3_1 ∧ v9 = .int .i64 x9_1 ∧ Aside0 (palaverref07_Encode.l1 kq x3_1 x9_1 a0_0 a0_1 l0_2 a0_3 l0_4 = some r) ∧ Aside0 (kq ≤ k) ∧ Aside0 (w'.heap[gb146]? = some (.cells #[.int .i64 a0_0, .int .i64 a0_1, (.slice A0_2 l0_2.length c0_2), .string a0_3, (.slice A0_4 l0_4.length c0_4)] 24 (0, 0))) ∧ Aside0 (Below w.heap.size w w'))
        case atStart => exact ⟨((strOfNums y147) ++ (strOfNums y162)), (0), (by first | rfl | (simp; done) | (simp [*]; done) | exact congrArg Value.bool (nonempty_l _) | (refine congrArg (Value.int _) ?_; first | omega | (unfold Go.RowKit.wrap64; omega))), (by first | rfl | (simp; done) | (simp [*]; done) | exact congrArg Value.bool (nonempty_l _) | (refine congrArg (Value.int _) ?_; first | omega | (unfold Go.RowKit.wrap64; omega))), H', ⟨Nat.le_refl _⟩, ⟨by (with_reducible repeat (first | refine blk_drewN ?_ _ | refine blk_drew ?_ | refine blk_alloc ?_ _)); exact BK146.out⟩, ⟨by repeat (first | (with_reducible first | exact HB.out | apply below_alloc | apply pw_below_drewN | apply below_drew1 | refine below_set ?_ GE146.out) | exact HB.out)⟩⟩
        case round =>
          clear H'
          try clear c1
          try clear p1
          try clear q1
          try clear hx1
          try clear hcv1
          try clear qi1
          try clear c2
          try clear c2b0
          try clear c2b1
          try clear p2
          try clear hcv2
          try clear c3
          try clear c3b0
          try clear c3b1
          try clear hcv4
          try clear c5
          try clear c5b0
          try clear c5b1
          try clear c5b2
          try clear c6
          try clear c6b0
          try clear c6b1
          try clear c6b2
          try clear p6
          try clear hcv11
          try clear c14
          try clear p15
          try clear q15
          try clear hx15
          try clear qi15
          try clear hcv17
          try clear c18
          try clear c18b0
          try clear c18b1
          try clear c19
          try clear c19b0
          try clear c19b1
          try clear c19b2
          try clear hcv24
          try clear c27
          try clear hcv28
          try clear c29
          try clear c29b0
          try clear c30
          try clear c30b0
          try clear c32
          try clear c32b0
          try clear c32b1
          try clear c32b2
          try clear c36
          try clear c36b0
          try clear c36b1
          try clear c36b2
          try clear hcv41
          try clear hcv45
          try clear hcz12_0
          try clear hcz12_1
          try clear hcz12_2
          try clear hcz12_3
          try clear hcz12_4
          try clear hcz14_0
          try clear hcz14_1
          try clear hcz14_2
          try clear hcz14_3
          try clear hcz14_4
          try clear hcz21_0
          try clear hcz21_1
          try clear hcz21_2
          try clear hcz21_3
          try clear hcz21_4
          try clear hcz25_0
          try clear hcz25_1
          try clear hcz25_2
          try clear hcz25_3
          try clear hcz25_4
          try clear hcz33_0
          try clear hcz33_1
          try clear hcz33_2
          try clear hcz33_3
          try clear hcz33_4
          try clear hcz35_0
          try clear hcz35_1
          try clear hcz35_2
          try clear hcz35_3
          try clear hcz35_4
          try clear hcz38_0
          try clear hcz38_1
          try clear hcz38_2
          try clear hcz38_3
          try clear hcz38_4
          try clear hcz42_0
          try clear hcz42_1
          try clear hcz42_2
          try clear hcz42_3
          try clear hcz42_4
          try clear hcz8_0
          try clear hcz8_1
          try clear hcz8_2
          try clear hcz8_3
          try clear hcz8_4
          try clear hfz12_0
          try clear hfz12_1
          try clear hfz12_2
          try clear hfz12_3
          try clear hfz12_4
          try clear hfz14_0
          try clear hfz14_1
          try clear hfz14_2
          try clear hfz14_3
          try clear hfz14_4
          try clear hfz21_0
          try clear hfz21_1
          try clear hfz21_2
          try clear hfz21_3
          try clear hfz21_4
          try clear hfz25_0
          try clear hfz25_1
          try clear hfz25_2
          try clear hfz25_3
          try clear hfz25_4
          try clear hfz33_0
          try clear hfz33_1
          try clear hfz33_2
          try clear hfz33_3
          try clear hfz33_4
          try clear hfz35_0
          try clear hfz35_1
          try clear hfz35_2
          try clear hfz35_3
          try clear hfz35_4
          try clear hfz38_0
          try clear hfz38_1
          try clear hfz38_2
          try clear hfz38_3
          try clear hfz38_4
          try clear hfz42_0
          try clear hfz42_1
          try clear hfz42_2
          try clear hfz42_3
          try clear hfz42_4
          try clear hfz8_0
          try clear hfz8_1
          try clear hfz8_2
          try clear hfz8_3
          try clear hfz8_4
          try clear hx150_0
          try clear hx159_0
          try clear p1
          try clear p15
          try clear p150
          try clear p159
          try clear p2
          try clear p6
          try clear q1
          try clear q15
          try clear q150
          try clear q159
          obtain ⟨x3_1, x9_1, rfl, rfl, HA, HK1, BK146, HB⟩ := hrel
          cases gk with
          | zero => exact absurd HA.out (by simp [palaverref07_Encode.l1])
          | succ k1 =>
            have H := HA.out
            clear HA
            simp only [palaverref07_Encode.l1] at H
            by_cases c46 : x9_1 < (l0_2.length : Int)
            · rw [if_pos c46] at H
              have c46b0 : decide (x9_1 < (l0_2.length : Int)) = true := decide_eq_true c46
              clear c46
              by_cases c47 : 0 ≤ x9_1
              · rw [if_pos c47] at H
                have c47b0 : decide (0 ≤ x9_1) = true := decide_eq_true c47
                clear c47
                by_cases c48 : x3_1.size + (rdOf ByteArray.empty l0_2 x9_1).size ≤ 9223372036854775807
                · rw [if_pos c48] at H
                  have c48b0 := eq_true c48
                  have c48b1 : decide (x3_1.size + (rdOf ByteArray.empty l0_2 x9_1).size ≤ 9223372036854775807) = true := decide_eq_true c48
                  try have c48b2 : (9223372036854775807 < x3_1.size + (rdOf ByteArray.empty l0_2 x9_1).size) = False := eq_false (Nat.not_lt.2 c48)
                  have H' := Aside0.mk H
                  clear H
                  have hcz49_0 : wr.cell? ⟨gb146, 0, none⟩ = some (.int .i64 a0_0) := (blk_cell BK146.out 0).trans rfl
                  have hcz49_1 : wr.cell? ⟨gb146, 1, none⟩ = some (.int .i64 a0_1) := (blk_cell BK146.out 1).trans rfl
                  have hcz49_2 : wr.cell? ⟨gb146, 2, none⟩ = some (.slice A0_2 l0_2.length c0_2) := (blk_cell BK146.out 2).trans rfl
                  have hcz49_3 : wr.cell? ⟨gb146, 3, none⟩ = some (.string a0_3) := (blk_cell BK146.out 3).trans rfl
                  have hcz49_4 : wr.cell? ⟨gb146, 4, none⟩ = some (.slice A0_4 l0_4.length c0_4) := (blk_cell BK146.out 4).trans rfl
                  have hfz49_0 := blk_frozen BK146.out 0
                  have hfz49_1 := blk_frozen BK146.out 1
                  have hfz49_2 := blk_frozen BK146.out 2
                  have hfz49_3 := blk_frozen BK146.out 3
                  have hfz49_4 := blk_frozen BK146.out 4
                  have p165 : 0 ≤ (x9_1 : Int) := of_decide_eq_true (by first | (with_reducible assumption) | assumption)
                  have q165 : x9_1 < (l0_2.length : Int) := of_decide_eq_true (by first | (with_reducible assumption) | assumption)
                  obtain ⟨ad165, e165, hx165_0⟩ := Kd.at_string HR0_2.out x9_1 p165 q165
                  cases e165
                  replace hx165_0 := (HB.out.cell (World.block_lt_of_cell? w _ hx165_0)).trans hx165_0
                  replace p165 := eq_true p165
                  replace q165 := eq_true q165
                  go_wp2
                  go_roundg k1
                  case measure => have := HK1.out; omega
                  case rel => exact ⟨(x3_1 ++ (rdOf ByteArray.empty l0_2 x9_1)), (wrap64 (x9_1 + 1)), (by first | rfl | (simp; done) | (simp [*]; done) | exact congrArg Value.bool (nonempty_l _) | (refine congrArg (Value.int _) ?_; first | omega | (unfold Go.RowKit.wrap64; omega))), (by first | rfl | (simp; done) | (simp [*]; done) | exact congrArg Value.bool (nonempty_l _) | (refine congrArg (Value.int _) ?_; first | omega | (unfold Go.RowKit.wrap64; omega))), H', ⟨by have := HK1.out; omega⟩, ⟨by (with_reducible repeat (first | refine blk_drewN ?_ _ | refine blk_drew ?_ | refine blk_alloc ?_ _)); exact BK146.out⟩, ⟨by repeat (first | (with_reducible first | exact HB.out | apply below_alloc | apply pw_below_drewN | apply below_drew1 | refine below_set ?_ GE146.out) | exact HB.out)⟩⟩
                · rw [if_neg c48] at H
                  exact absurd H (by simp)
              · rw [if_neg c47] at H
                exact absurd H (by simp)
            · rw [if_neg c46] at H
              have c46b0 : decide (x9_1 < (l0_2.length : Int)) = false := decide_eq_false c46
              clear c46
              by_cases c50 : a0_0 = 2
              · rw [if_pos c50] at H
                have c50b0 : (a0_0 == 2) = true := beq_iff_eq.mpr c50
                have c50b1 : (a0_0 != 2) = false := bne_eq_false_iff_eq.mpr c50
                clear c50
                replace H := Option.bind_eq_some_iff.mp H
                obtain ⟨⟨t166, t167⟩, A510, H⟩ := H
                replace H : (if x3_1.size + t166.size ≤ 9223372036854775807 then (some (x3_1 ++ t166)) else (none)) = some r := H
                have A51 := Aside0.mk A510
                clear A510
                by_cases c52 : x3_1.size + t166.size ≤ 9223372036854775807
                · rw [if_pos c52] at H
                  have c52b0 := eq_true c52
                  have c52b1 : decide (x3_1.size + t166.size ≤ 9223372036854775807) = true := decide_eq_true c52
                  try have c52b2 : (9223372036854775807 < x3_1.size + t166.size) = False := eq_false (Nat.not_lt.2 c52)
                  obtain rfl := Option.some.inj H
                  have hcz53_0 : wr.cell? ⟨gb146, 0, none⟩ = some (.int .i64 a0_0) := (blk_cell BK146.out 0).trans rfl
                  have hcz53_1 : wr.cell? ⟨gb146, 1, none⟩ = some (.int .i64 a0_1) := (blk_cell BK146.out 1).trans rfl
                  have hcz53_2 : wr.cell? ⟨gb146, 2, none⟩ = some (.slice A0_2 l0_2.length c0_2) := (blk_cell BK146.out 2).trans rfl
                  have hcz53_3 : wr.cell? ⟨gb146, 3, none⟩ = some (.string a0_3) := (blk_cell BK146.out 3).trans rfl
                  have hcz53_4 : wr.cell? ⟨gb146, 4, none⟩ = some (.slice A0_4 l0_4.length c0_4) := (blk_cell BK146.out 4).trans rfl
                  have hfz53_0 := blk_frozen BK146.out 0
                  have hfz53_1 := blk_frozen BK146.out 1
                  have hfz53_2 := blk_frozen BK146.out 2
                  have hfz53_3 := blk_frozen BK146.out 3
                  have hfz53_4 := blk_frozen BK146.out 4
                  go_wp2_with (first | ((with_reducible refine gate_callee (f := 27) rfl ?_); refine goesL_ (some 96) rfl rfl Try.func27 (by kernel_rfl) rfl #[.string a0_3] rfl (by (try simp only [List.map_toArray, List.map_cons, List.map_nil]); first | done | rfl | (simp only [List.length_drop, List.length_take]; rfl)) ?_; (with_reducible refine (palaverref01_Text.calls k1 a0_3 t166 t167 _ A51.out).mono ?_); rintro e w54 ⟨rfl, hb⟩; refine ⟨_, rfl, ?_⟩; have n0_ := Aside0.mk (blk_below (g := gb146) (o := .cells #[.int .i64 a0_0, .int .i64 a0_1, .slice A0_2 l0_2.length c0_2, .string a0_3, .slice A0_4 l0_4.length c0_4] 24 (0, 0)) (by (with_reducible repeat (first | refine blk_drewN ?_ _ | refine blk_drew ?_ | refine blk_alloc ?_ _)); exact BK146.out) hb); have n1_ := Aside0.mk (below_step (by repeat (first | (with_reducible first | exact HB.out | apply below_alloc | apply pw_below_drewN | apply below_drew1 | refine below_set ?_ GE146.out) | exact HB.out)) hb); clear BK146; clear HB; have BK146 := n0_; have HB := n1_; clear n0_ n1_; (try clear hb); (try clear hb2); (try clear hk); (try clear hi)))
                  go_ret
                  exact ⟨by first | rfl | (simp [errW_none, errW_some] <;> rfl) | (simp [*, errW_none, errW_some] <;> rfl), by repeat (first | (with_reducible first | exact HB.out | apply below_alloc | apply pw_below_drewN | apply below_drew1 | refine below_set ?_ GE146.out) | exact HB.out)⟩
                · rw [if_neg c52] at H
                  exact absurd H (by simp)
              · rw [if_neg c50] at H
                have c50b0 : (a0_0 == 2) = false := beq_eq_false_iff_ne.mpr c50
                have c50b1 : (a0_0 != 2) = true := bne_iff_ne.mpr c50
                obtain rfl := Option.some.inj H
                have hcz55_0 : wr.cell? ⟨gb146, 0, none⟩ = some (.int .i64 a0_0) := (blk_cell BK146.out 0).trans rfl
                have hcz55_1 : wr.cell? ⟨gb146, 1, none⟩ = some (.int .i64 a0_1) := (blk_cell BK146.out 1).trans rfl
                have hcz55_2 : wr.cell? ⟨gb146, 2, none⟩ = some (.slice A0_2 l0_2.length c0_2) := (blk_cell BK146.out 2).trans rfl
                have hcz55_3 : wr.cell? ⟨gb146, 3, none⟩ = some (.string a0_3) := (blk_cell BK146.out 3).trans rfl
                have hcz55_4 : wr.cell? ⟨gb146, 4, none⟩ = some (.slice A0_4 l0_4.length c0_4) := (blk_cell BK146.out 4).trans rfl
                have hfz55_0 := blk_frozen BK146.out 0
                have hfz55_1 := blk_frozen BK146.out 1
                have hfz55_2 := blk_frozen BK146.out 2
                have hfz55_3 := blk_frozen BK146.out 3
                have hfz55_4 := blk_frozen BK146.out 4
                go_wp2
                go_ret
                exact ⟨by first | rfl | (simp [errW_none, errW_some] <;> rfl) | (simp [*, errW_none, errW_some] <;> rfl), by repeat (first | (with_reducible first | exact HB.out | apply below_alloc | apply pw_below_drewN | apply below_drew1 | refine below_set ?_ GE146.out) | exact HB.out)⟩
      · rw [if_neg c36] at H
        exact absurd H (by simp)

end Go.Proofs.Ytbiempnleljciaa.PP
