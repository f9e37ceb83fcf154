/-
  KeyVerifies: whether any bytes are a right signature, for any public and message, and of which leaf.
  Conditions: none of our own.
-/
import Derived.Test.YtnfbagkeenjifaaGreatDoorKeyS
import Derived.Test.YtnfbagkeenjifaaGreatDoorChk2
import Derived.Test.YtnfbagkeenjifaaGreatDoorPPx1
import Derived.Test.YtnfbagkeenjifaaGreatDoorPPx2
import Derived.Test.YtnfbagkeenjifaaGreatDoorPPx3
namespace Go.Proofs.YtnfbagkeenjifaaGreatDoor.KeyO
open Go.RowKit Go.Proofs.YtnfbagkeenjifaaGreatDoor.PP Go.Proofs.YtnfbagkeenjifaaGreatDoorW.PrintWords Go.Proofs.YtnfbagkeenjifaaGreatDoorW.PrintLast Go.Proofs.YtnfbagkeenjifaaGreatDoorW.PrintMore
set_option linter.unusedVariables false
set_option maxRecDepth 100000 in
set_option maxHeartbeats 6400000 in
theorem verifies_rest (a0 a1 a2 : ByteArray) (W : World) (hG : Keys W) (h : 300 < a0.size ∨ 300 < a1.size ∨ 3000 < a2.size) :
    Calls Tryz.prog 3 #[.string a0, .string a1, .string a2] W fun e w' => e = .returned (.bool true) ∧ Below W.heap.size W w' := by
  have HG := Aside0.mk hG
  obtain ⟨b, hb0⟩ : ∃ b, decide ((a0.size : Int) > 300) = b := ⟨_, rfl⟩
  obtain ⟨c, hc0⟩ : ∃ c, decide ((a1.size : Int) > 300) = c := ⟨_, rfl⟩
  have HL := Aside0.mk (show palaverlaw05_long.f a0 = some b by unfold palaverlaw05_long.f; rw [hb0])
  have HM := Aside0.mk (show palaverlaw05_long.f a1 = some c by unfold palaverlaw05_long.f; rw [hc0])
  have hbc : b = true ∨ (b = false ∧ (c = true ∨ (c = false ∧ 3000 < a2.size))) := by
    cases b
    · right
      refine ⟨rfl, ?_⟩
      have h1 := of_decide_eq_false hb0
      cases c
      · right
        have h2 := of_decide_eq_false hc0
        exact ⟨rfl, by omega⟩
      · exact .inl rfl
    · exact .inl rfl
  clear hG h hb0 hc0
  rcases hbc with rfl | ⟨rfl, rfl | ⟨rfl, h3⟩⟩
  · go_enter Tryz.func3, Tryz.ntmps3
    go_wp2_with (first
      | (go_at_call 9; refine (palaverlaw05_long.calls a0 _ _ HL.out).mono ?_; rintro e w1 ⟨rfl, hd⟩; have HB := Aside0.mk (hd.below); clear hd)
      | (go_at_call 10; refine (awake_ w1 (Kd.C_below HG.out HB.out)).mono ?_; rintro e w2 ⟨rfl, hb⟩; have HB2 := Aside0.mk (below_step HB.out hb); clear hb))
    go_ret
    exact ⟨rfl, HB2.out⟩
  · go_enter Tryz.func3, Tryz.ntmps3
    go_wp2_with (first
      | (go_at_call 9; refine (palaverlaw05_long.calls a0 _ W HL.out).mono ?_; rintro e w1 ⟨rfl, hd⟩; have HB := Aside0.mk (hd.below); clear hd HL)
      | (go_at_call 9; refine (palaverlaw05_long.calls a1 _ w1 HM.out).mono ?_; rintro e w2 ⟨rfl, hd⟩; have HB2 := Aside0.mk (below_step HB.out hd.below); clear hd)
      | (go_at_call 10; refine (awake_ w2 (Kd.C_below HG.out HB2.out)).mono ?_; rintro e w3 ⟨rfl, hb⟩; have HB3 := Aside0.mk (below_step HB2.out hb); clear hb))
    go_ret
    exact ⟨rfl, HB3.out⟩
  · have p1 : (3000 < (a2.size : Int)) = True := eq_true (by omega)
    have p2 : (3000 < a2.size) = True := eq_true h3
    clear h3
    go_enter Tryz.func3, Tryz.ntmps3
    go_wp2_with (first
      | (go_at_call 9; refine (palaverlaw05_long.calls a0 _ W HL.out).mono ?_; rintro e w1 ⟨rfl, hd⟩; have HB := Aside0.mk (hd.below); clear hd HL)
      | (go_at_call 9; refine (palaverlaw05_long.calls a1 _ w1 HM.out).mono ?_; rintro e w2 ⟨rfl, hd⟩; have HB2 := Aside0.mk (below_step HB.out hd.below); clear hd)
      | (go_at_call 10; refine (awake_ w2 (Kd.C_below HG.out HB2.out)).mono ?_; rintro e w3 ⟨rfl, hb⟩; have HB3 := Aside0.mk (below_step HB2.out hb); clear hb))
    go_ret
    exact ⟨rfl, HB3.out⟩
set_option maxRecDepth 100000 in
set_option maxHeartbeats 6400000 in
theorem hand_KeyVerifies (a0 a1 a2 : ByteArray) (W : World) (_w0 : a0.size ≤ 140737488351232) (_w1 : a1.size ≤ 140737488351232) (_w2 : a2.size ≤ 140737488351232) (hG : Keys W) :
    Calls Tryz.prog 3 #[.string a0, .string a1, .string a2] W fun e w' => e = .returned (.bool true) ∧ Below W.heap.size W w' := by
  by_cases hlong : 300 < a0.size ∨ 300 < a1.size ∨ 3000 < a2.size
  · exact verifies_rest a0 a1 a2 W hG hlong
  obtain ⟨b, road, hV, hV2⟩ := Oct.Evt.verify_same a0 a1 a2 (by omega) (by omega)
  obtain ⟨k1, h1⟩ := hV.get
  obtain ⟨k2, h2⟩ := hV2.get
  have hP := Oct.Evt.kp_ev a2 (by omega)
  have hP2 := Oct.Evt.rp_ev a2 (by omega)
  obtain ⟨⟨leaf, vs, ps, ok⟩, hp⟩ : ∃ p, Oct.Evt.parts5 a2 = p := ⟨_, rfl⟩
  rw [hp] at hP hP2
  obtain ⟨k3, h3⟩ := hP2.get
  have hF : Sha.Ev (fun k => key_Leaf.f k a2) (leaf, ok) := by
    unfold key_Leaf.f
    exact Sha.Ev.bind hP (Sha.Ev.pure _)
  obtain ⟨k4, h4⟩ := hF.get
  have HG := Aside0.mk hG
  have HL := Aside0.mk (show palaverlaw05_long.f a0 = some false by unfold palaverlaw05_long.f; rw [decide_eq_false (by omega)])
  have HM := Aside0.mk (show palaverlaw05_long.f a1 = some false by unfold palaverlaw05_long.f; rw [decide_eq_false (by omega)])
  have p1 : (3000 < (a2.size : Int)) = False := eq_false (by omega)
  have p2 : (3000 < a2.size) = False := eq_false (by omega)
  have H1 := Aside0.mk h1
  have H2 := Aside0.mk h2
  have H3 := Aside0.mk h3
  have H4 := Aside0.mk h4
  clear hG hlong hV hV2 h1 h2 h3 h4 hP hP2 hF hp
  go_enter Tryz.func3, Tryz.ntmps3
  go_wp2_with (first
    | (go_at_call 9; refine (palaverlaw05_long.calls a0 _ W HL.out).mono ?_; rintro e w1 ⟨rfl, hd⟩; have HB := Aside0.mk (hd.below); clear hd HL)
    | (go_at_call 9; refine (palaverlaw05_long.calls a1 _ w1 HM.out).mono ?_; rintro e w2 ⟨rfl, hd⟩; have HB2 := Aside0.mk (below_step HB.out hd.below); clear hd HM)
    | (go_at_call 11; (with_reducible refine (palaverref05_Verify.calls k2 a0 a1 a2 b road w2 H2.out).mono ?_); rintro e w3 ⟨v3, rfl, _, hb⟩; have HB3 := Aside0.mk (below_step HB2.out hb); clear hb)
    | (go_at_call 12; (with_reducible refine (palaverref05_Parts.calls k3 a2 leaf vs ps ok w3 H3.out).mono ?_); rintro e w4 ⟨P1, P2, q1, q2, rfl, _, _, _, _, hb⟩; have HB4 := Aside0.mk (below_step HB3.out hb); clear hb)
    | (go_at_call 13; (with_reducible refine (key_Leaf.calls k4 a2 leaf ok w4 H4.out).mono ?_); rintro e w5 ⟨rfl, hb⟩; have HB5 := Aside0.mk (below_step HB4.out hb); clear hb)
    | (go_at_call 14; (with_reducible refine (key_Verify.calls k1 a0 a1 a2 b w5 (Kd.C_below HG.out HB5.out) H1.out).mono ?_); rintro e w6 ⟨rfl, hb⟩; have HB6 := Aside0.mk (below_step HB5.out hb); clear hb)
    | (go_at_call 10; refine (awake_ w6 (Kd.C_below HG.out HB6.out)).mono ?_; rintro e w7 ⟨rfl, hb⟩; have HB7 := Aside0.mk (below_step HB6.out hb); clear hb))
  go_ret
  exact ⟨rfl, HB7.out⟩
end Go.Proofs.YtnfbagkeenjifaaGreatDoor.KeyO
