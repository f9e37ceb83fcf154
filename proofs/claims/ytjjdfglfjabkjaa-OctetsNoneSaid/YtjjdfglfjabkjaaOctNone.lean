/-
  OctetsNone: of a nil reader every method answers nothing, and it is bad.
  Conditions: none.
-/
import Derived.Test.YtjjdfglfjabkjaaOct1
import Derived.Test.YtjjdfglfjabkjaaOwnWords
import Derived.Test.YtjjdfglfjabkjaaPPx2
import Derived.Test.YtjjdfglfjabkjaaPPx0
/-! A nil reader: what each method answers, and that nothing is written. -/
namespace Go.Proofs.Ytjjdfglfjabkjaa.Oct
open Go.RowKit Go.Proofs.Ytjjdfglfjabkjaa.PP Go.Proofs.YtjjdfglfjabkjaaW.PrintWords Go.Proofs.YtjjdfglfjabkjaaW.PrintLast Go.Proofs.YtjjdfglfjabkjaaW.PrintMore

theorem good_nil (w : World) : Calls Try.prog 18 #[.pointer none] w fun e w' => e = .returned (.bool false) ∧ w = w' := by
  go_enter Try.func18, Try.ntmps18
  go_wp2
  go_ret
  exact ⟨rfl, rfl⟩
theorem take_nil (n : Int) (w : World) : Calls Try.prog 26 #[.pointer none, .int .i64 n] w fun e w' => e = .returned (.string ⟨#[]⟩) ∧ w = w' := by
  go_enter Try.func26, Try.ntmps26
  go_wp2
  go_ret
  exact ⟨rfl, rfl⟩
theorem left_nil (w : World) : Calls Try.prog 20 #[.pointer none] w fun e w' => e = .returned (.int .i64 0) ∧ w = w' := by
  go_enter Try.func20, Try.ntmps20
  go_wp2_with (go_at_call 18; (with_reducible refine (good_nil _).mono ?_); rintro e w' ⟨rfl, rfl⟩)
  go_ret
  exact ⟨rfl, rfl⟩
theorem end_nil (w : World) : Calls Try.prog 21 #[.pointer none] w fun e w' => e = .returned (.bool false) ∧ w = w' := by
  go_enter Try.func21, Try.ntmps21
  go_wp2_with (go_at_call 18; (with_reducible refine (good_nil _).mono ?_); rintro e w' ⟨rfl, rfl⟩)
  go_ret
  exact ⟨rfl, rfl⟩
set_option maxHeartbeats 1000000 in
theorem number_nil (n : Int) (w : World) : Calls Try.prog 28 #[.pointer none, .int .i64 n] w fun e w' => e = .returned (.int .i64 0) ∧ Below w.heap.size w w' := by
  go_enter Try.func28, Try.ntmps28
  go_wp2_with (first | (go_at_call 26; (with_reducible refine (take_nil _ _).mono ?_); rintro e w' ⟨rfl, rfl⟩) | ((with_reducible refine gate_dst (N := 11) rfl ?_); refine conv_event (P := Try.prog) (ys := []) rfl (N := 11) rfl 9 46 5 _ rfl ⟨#[]⟩ rfl rfl Try.underlying9 Try.underlying46 Try.underlying5 (by decide) ?_; intro A c w2 hR hC hb))
  refine wp_loop_rounds 1 ?_
  rw [rounds_succ]
  go_wp2
  go_ret
  exact ⟨rfl, hb⟩
theorem byte_nil (w : World) : Calls Try.prog 19 #[.pointer none] w fun e w' => e = .returned (.int .i64 0) ∧ Below w.heap.size w w' := by
  go_enter Try.func19, Try.ntmps19
  go_wp2_with (go_at_call 28; (with_reducible refine (number_nil _ _).mono ?_); rintro e w' ⟨rfl, hb⟩)
  go_ret
  exact ⟨rfl, hb⟩
theorem short_nil (w : World) : Calls Try.prog 24 #[.pointer none] w fun e w' => e = .returned (.int .i64 0) ∧ Below w.heap.size w w' := by
  go_enter Try.func24, Try.ntmps24
  go_wp2_with (go_at_call 28; (with_reducible refine (number_nil _ _).mono ?_); rintro e w' ⟨rfl, hb⟩)
  go_ret
  exact ⟨rfl, hb⟩
theorem long_nil (w : World) : Calls Try.prog 25 #[.pointer none] w fun e w' => e = .returned (.int .i64 0) ∧ Below w.heap.size w w' := by
  go_enter Try.func25, Try.ntmps25
  go_wp2_with (go_at_call 28; (with_reducible refine (number_nil _ _).mono ?_); rintro e w' ⟨rfl, hb⟩)
  go_ret
  exact ⟨rfl, hb⟩
theorem text_nil (w : World) : Calls Try.prog 17 #[.pointer none] w fun e w' => e = .returned (.string ⟨#[]⟩) ∧ Below w.heap.size w w' := by
  go_enter Try.func17, Try.ntmps17
  go_wp2_with (first | (go_at_call 24; (with_reducible refine (short_nil _).mono ?_); rintro e w' ⟨rfl, hb⟩) | (go_at_call 26; (with_reducible refine (take_nil _ _).mono ?_); rintro e w' ⟨rfl, rfl⟩))
  go_ret
  exact ⟨rfl, hb⟩
set_option maxHeartbeats 2000000 in
theorem none_calls (n : Int) (w : World) : Calls Try.prog 7 #[.int .i64 n] w fun e w' => e = .returned (.bool true) ∧ Below w.heap.size w w' := by
  have HB := Aside0.mk (Below.refl w.heap.size w)
  go_enter Try.func7, Try.ntmps7
  go_wp2_with (first
    | (go_at_call 19; (with_reducible refine (byte_nil _).mono ?_); rintro e w1 ⟨rfl, hb⟩; have n0_ := Aside0.mk (below_step HB.out hb); clear HB hb; have HB := n0_; clear n0_)
    | (go_at_call 24; (with_reducible refine (short_nil _).mono ?_); rintro e w1 ⟨rfl, hb⟩; have n0_ := Aside0.mk (below_step HB.out hb); clear HB hb; have HB := n0_; clear n0_)
    | (go_at_call 25; (with_reducible refine (long_nil _).mono ?_); rintro e w1 ⟨rfl, hb⟩; have n0_ := Aside0.mk (below_step HB.out hb); clear HB hb; have HB := n0_; clear n0_)
    | (go_at_call 17; (with_reducible refine (text_nil _).mono ?_); rintro e w1 ⟨rfl, hb⟩; have n0_ := Aside0.mk (below_step HB.out hb); clear HB hb; have HB := n0_; clear n0_)
    | (go_at_call 26; (with_reducible refine (take_nil _ _).mono ?_); rintro e w1 ⟨rfl, rfl⟩)
    | (go_at_call 20; (with_reducible refine (left_nil _).mono ?_); rintro e w1 ⟨rfl, rfl⟩)
    | (go_at_call 18; (with_reducible refine (good_nil _).mono ?_); rintro e w1 ⟨rfl, rfl⟩)
    | (go_at_call 21; (with_reducible refine (end_nil _).mono ?_); rintro e w1 ⟨rfl, rfl⟩)
    | (go_at_call 11; (with_reducible refine (palaverlaw01_awake.calls 20 true _ (awake_eq 20 (by omega))).mono ?_); rintro e w1 ⟨rfl, hb⟩; have n0_ := Aside0.mk (below_step HB.out hb); clear HB hb; have HB := n0_; clear n0_))
  go_ret
  exact ⟨rfl, HB.out⟩
theorem hand_OctetsNone (n : Int) (w : World) (_h : (Lit.int .i64 n).wf = true) : Calls Try.prog 7 #[.int .i64 n] w fun e w' => e = .returned (.bool true) ∧ Below w.heap.size w w' := none_calls n w
end Go.Proofs.Ytjjdfglfjabkjaa.Oct
