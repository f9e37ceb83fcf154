/-
  KeyNone: of no key there is nothing.
  Conditions: none of our own.
-/
import Derived.Test.YtnfbagkeenjifaaDoorKeyR
namespace Go.Proofs.YtnfbagkeenjifaaDoor.KeyO
open Go.RowKit Go.Proofs.YtnfbagkeenjifaaDoor.PP Go.Proofs.YtnfbagkeenjifaaDoorW.PrintWords Go.Proofs.YtnfbagkeenjifaaDoorW.PrintLast Go.Proofs.YtnfbagkeenjifaaDoorW.PrintMore
set_option linter.unusedVariables false
set_option maxRecDepth 100000 in
set_option maxHeartbeats 6400000 in
theorem hand_KeyNone (a0 : ByteArray) (W : World) (_w0 : a0.size ≤ 140737488351232) (hG : Keys W) :
    Calls Tryd.prog 4 #[.string a0] W fun e w' => e = .returned (.bool true) ∧ Below W.heap.size W w' := by
  have HG := Aside0.mk hG
  clear hG
  go_enter Tryd.func4, Tryd.ntmps4
  go_wp2_with (first
    | (go_at_call 13; refine (sign_nil _ _).mono ?_; rintro e w1 ⟨rfl, hw⟩; have hw := hw.symm; subst hw)
    | (go_at_call 9; refine (public_nil _).mono ?_; rintro e w1 ⟨rfl, hw⟩; have hw := hw.symm; subst hw)
    | (go_at_call 11; refine (used_nil _).mono ?_; rintro e w1 ⟨rfl, hw⟩; have hw := hw.symm; subst hw)
    | (go_at_call 12; refine (left_nil _).mono ?_; rintro e w1 ⟨rfl, hw⟩; have hw := hw.symm; subst hw)
    | (go_at_call 7; refine (awake_ W HG.out).mono ?_; rintro e w1 ⟨rfl, hb⟩; have HB := Aside0.mk hb; clear hb))
  go_ret
  exact ⟨rfl, HB.out⟩
end Go.Proofs.YtnfbagkeenjifaaDoor.KeyO
