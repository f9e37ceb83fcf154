/-
  KeySigns: what any key signs of any message is the document's, by its next leaf; or it is spent.
  Conditions: none of our own.
-/
import Derived.Test.YtnfbagkeenjifaaDoorKeyR
import Derived.Test.YtnfbagkeenjifaaDoorKeyS
import Derived.Test.YtnfbagkeenjifaaDoorPPx1
import Derived.Test.YtnfbagkeenjifaaDoorPPx2
import Derived.Test.YtnfbagkeenjifaaDoorPPx3
namespace Go.Proofs.YtnfbagkeenjifaaDoor.KeyO
open Go.RowKit Go.Proofs.YtnfbagkeenjifaaDoor.PP Go.Proofs.YtnfbagkeenjifaaDoorW.PrintWords Go.Proofs.YtnfbagkeenjifaaDoorW.PrintLast Go.Proofs.YtnfbagkeenjifaaDoorW.PrintMore
set_option linter.unusedVariables false
set_option maxRecDepth 100000 in
set_option maxHeartbeats 6400000 in
theorem signs_rest (a0 : ByteArray) (a1 a2 : Int) (a3 : ByteArray) (W : World) (hG : Keys W) (h : 300 < a0.size ∨ 300 < a3.size) :
    Calls Tryd.prog 5 #[.string a0, .int .i64 a1, .int .i64 a2, .string a3] W fun e w' => e = .returned (.bool true) ∧ Below W.heap.size W w' := by
  have HG := Aside0.mk hG
  obtain ⟨b, hb0⟩ : ∃ b, decide ((a0.size : Int) > 300) = b := ⟨_, rfl⟩
  obtain ⟨c, hc0⟩ : ∃ c, decide ((a3.size : Int) > 300) = c := ⟨_, rfl⟩
  have HL := Aside0.mk (show palaverlaw05_long.f a0 = some b by unfold palaverlaw05_long.f; rw [hb0])
  have HM := Aside0.mk (show palaverlaw05_long.f a3 = some c by unfold palaverlaw05_long.f; rw [hc0])
  have hbc : b = true ∨ (b = false ∧ c = true) := by
    cases b
    · right
      refine ⟨rfl, ?_⟩
      have := of_decide_eq_false hb0
      rw [← hc0]
      exact decide_eq_true (by omega)
    · exact .inl rfl
  clear hG h hb0 hc0
  rcases hbc with rfl | ⟨rfl, rfl⟩
  · go_enter Tryd.func5, Tryd.ntmps5
    go_wp2_with (first
      | (go_at_call 6; refine (palaverlaw05_long.calls a0 _ _ HL.out).mono ?_; rintro e w1 ⟨rfl, hd⟩; have HB := Aside0.mk (hd.below); clear hd)
      | (go_at_call 7; refine (awake_ w1 (Kd.C_below HG.out HB.out)).mono ?_; rintro e w2 ⟨rfl, hb⟩; have HB2 := Aside0.mk (below_step HB.out hb); clear hb))
    go_ret
    exact ⟨rfl, HB2.out⟩
  · go_enter Tryd.func5, Tryd.ntmps5
    go_wp2_with (first
      | (go_at_call 6; refine (palaverlaw05_long.calls a0 _ W HL.out).mono ?_; rintro e w1 ⟨rfl, hd⟩; have HB := Aside0.mk (hd.below); clear hd HL)
      | (go_at_call 6; refine (palaverlaw05_long.calls a3 _ w1 HM.out).mono ?_; rintro e w2 ⟨rfl, hd⟩; have HB2 := Aside0.mk (below_step HB.out hd.below); clear hd)
      | (go_at_call 7; refine (awake_ w2 (Kd.C_below HG.out HB2.out)).mono ?_; rintro e w3 ⟨rfl, hb⟩; have HB3 := Aside0.mk (below_step HB2.out hb); clear hb))
    go_ret
    exact ⟨rfl, HB3.out⟩
set_option maxRecDepth 100000 in
set_option maxHeartbeats 6400000 in
theorem hand_KeySigns (a0 : ByteArray) (a1 a2 : Int) (a3 : ByteArray) (W : World) (_w0 : a0.size ≤ 140737488351232) (_w1 : (Lit.int .i64 a1).wf = true) (_w2 : (Lit.int .i64 a2).wf = true) (_w3 : a3.size ≤ 140737488351232) (hG : Keys W) :
    Calls Tryd.prog 5 #[.string a0, .int .i64 a1, .int .i64 a2, .string a3] W fun e w' => e = .returned (.bool true) ∧ Below W.heap.size W w' := by
  by_cases hlong : 300 < a0.size ∨ 300 < a3.size
  · exact signs_rest a0 a1 a2 a3 W hG hlong
  have hs : a0.size ≤ 300 := by omega
  have hm : a3.size ≤ 300 := by omega
  obtain ⟨h, h0, h2, hsm⟩ := small_ a1
  have hn := two_le h0 (show h ≤ 4 by omega)
  obtain ⟨u, u0, u1, hu⟩ := rem_ a2 (two h) (by omega)
  obtain ⟨hx1, hx2⟩ := u64_two h h0 (by omega)
  have hsh := shl64 h h0 (by omega)
  have hsh2 : wrap64 (2 ^ min h.toNat 64) = (two h : Int) := by rw [Nat.min_eq_left (by omega)]; exact hsh
  have HG := Aside0.mk hG
  have HL := Aside0.mk (show palaverlaw05_long.f a0 = some false by unfold palaverlaw05_long.f; rw [decide_eq_false (by omega)])
  have HM := Aside0.mk (show palaverlaw05_long.f a3 = some false by unfold palaverlaw05_long.f; rw [decide_eq_false (by omega)])
  have HS := Aside0.mk hsm
  have HH := Aside0.mk (And.intro hs (And.intro hm (And.intro h0 (And.intro h2 (And.intro u0 u1)))))
  have p1 : (0 ≤ h) = True := eq_true h0
  have p2 : (h ≤ 4) = True := eq_true (by omega)
  have p3 : ((two h : Int) + 1 = 0) = False := eq_false (by omega)
  by_cases hsp : u = two h
  · subst hsp
    clear hG hsm hs hm h0 h2 u0 u1 hlong
    go_enter Tryd.func5, Tryd.ntmps5
    go_wp2_with (first
      | (go_at_call 6; refine (palaverlaw05_long.calls a0 _ W HL.out).mono ?_; rintro e w1 ⟨rfl, hd⟩; have HB := Aside0.mk (hd.below); clear hd HL)
      | (go_at_call 6; refine (palaverlaw05_long.calls a3 _ w1 HM.out).mono ?_; rintro e w2 ⟨rfl, hd⟩; have HB2 := Aside0.mk (below_step HB.out hd.below); clear hd HM)
      | (go_at_call 7; refine (awake_ w2 (Kd.C_below HG.out HB2.out)).mono ?_; rintro e w3 ⟨rfl, hb⟩; have HB3 := Aside0.mk (below_step HB2.out hb); clear hb)
      | (go_at_call 14; refine (palaverlaw05_small.calls a1 h w3 HS.out).mono ?_; rintro e w4 ⟨rfl, hd⟩; have HB4 := Aside0.mk (below_step HB3.out hd.below); clear hd)
      | (go_at_call 8; refine (new_ok (lv pub) a0 h (two h) W w4 HB4.out HH.out.2.2.1 (by have := HH.out; omega) (by omega) (by omega)).mono ?_; rintro e w5 ⟨g, rfl, hI, hB, _, _⟩; have HI5 := Aside0.mk hI; have HB5 := Aside0.mk hB; clear hI hB)
      | (go_at_call 13; refine (sign_spent g a0 h (two h) a3 W w5 HI5.out rfl).mono ?_; rintro e w6 ⟨rfl, hw⟩; have hw := hw.symm; subst hw)
      | (go_at_call 11; refine (used (lv pub) g a0 h (two h) W w5 HI5.out (by omega) (by omega)).mono ?_; rintro e w6 ⟨rfl, hw⟩; have hw := hw.symm; subst hw))
    go_ret
    exact ⟨rfl, HB5.out⟩
  · have ult : u < two h := by omega
    obtain ⟨k1, hR⟩ := (rsign_ a0 hs h u h0 (by omega) u0 ult a3 (by omega)).get
    obtain ⟨k2, hF⟩ := (leaf_sig a0 h u h0 (by omega) u0 ult a3).get
    obtain ⟨S, hS⟩ : ∃ S, sigK a0 h u a3 = S := ⟨_, rfl⟩
    rw [hS] at hR hF
    have HR := Aside0.mk hR
    have HF := Aside0.mk hF
    have HSG := Aside0.mk hS
    have HU := Aside0.mk ult
    have p4 : wrap64 (u + 1) = u + 1 := by unfold wrap64; omega
    have e1 : (u == (two h : Int)) = false := beq_eq_false_iff_ne.2 hsp
    have e2 : (u = (two h : Int)) = False := eq_false hsp
    have e3 : decide (u = (two h : Int)) = false := decide_eq_false hsp
    clear hG hsm hs hm h0 h2 u0 u1 hlong hR hF hS hsp ult
    go_enter Tryd.func5, Tryd.ntmps5
    go_wp2_with (first
      | (go_at_call 6; refine (palaverlaw05_long.calls a0 _ W HL.out).mono ?_; rintro e w1 ⟨rfl, hd⟩; have HB := Aside0.mk (hd.below); clear hd HL)
      | (go_at_call 6; refine (palaverlaw05_long.calls a3 _ w1 HM.out).mono ?_; rintro e w2 ⟨rfl, hd⟩; have HB2 := Aside0.mk (below_step HB.out hd.below); clear hd HM)
      | (go_at_call 7; refine (awake_ w2 (Kd.C_below HG.out HB2.out)).mono ?_; rintro e w3 ⟨rfl, hb⟩; have HB3 := Aside0.mk (below_step HB2.out hb); clear hb)
      | (go_at_call 14; refine (palaverlaw05_small.calls a1 h w3 HS.out).mono ?_; rintro e w4 ⟨rfl, hd⟩; have HB4 := Aside0.mk (below_step HB3.out hd.below); clear hd)
      | (go_at_call 8; refine (new_ok (lv pub) a0 h u W w4 HB4.out HH.out.2.2.1 (by have := HH.out; omega) HH.out.2.2.2.2.1 HH.out.2.2.2.2.2).mono ?_; rintro e w5 ⟨g, rfl, hI, hB, _, _⟩; have HI5 := Aside0.mk hI; have HB5 := Aside0.mk hB; clear hI hB)
      | (go_at_call 13; refine (sign_ok g a0 h u a3 W w5 HI5.out HB5.out HH.out.1 (by have := HH.out; omega) HG.out HH.out.2.2.2.2.1 HU.out).mono ?_; rintro e w6 ⟨he, hI, hB, _⟩; rw [HSG.out] at he; subst he; have HI6 := Aside0.mk hI; have HB6 := Aside0.mk hB; clear hI hB)
      | (go_at_call 15; (with_reducible refine (key_Leaf.calls k2 S u true _ HF.out).mono ?_); rintro e w7 ⟨rfl, hb⟩; have HI7 := Aside0.mk (HI6.out.below hb); have HB7 := Aside0.mk (below_step HB6.out hb); clear hb)
      | (go_at_call 16; (with_reducible refine (palaverref05_Sign.calls k1 a0 h u a3 S _ HR.out).mono ?_); rintro e w8 ⟨rfl, hb⟩; have HI8 := Aside0.mk (HI7.out.below hb); have HB8 := Aside0.mk (below_step HB7.out hb); clear hb)
      | (go_at_call 11; refine (used (lv pub) g a0 h (u + 1) W w8 HI8.out (by have := HH.out; omega) (by have := HH.out; omega)).mono ?_; rintro e w9 ⟨rfl, hw⟩; have hw := hw.symm; subst hw))
    go_ret
    exact ⟨by first | rfl | (refine congrArg Ending.returned ?_; simp), HB8.out⟩
end Go.Proofs.YtnfbagkeenjifaaDoor.KeyO
