/-
  KeyMakes: of any seed, height and count of used leaves the key's public, used and left leaves; or that there is no key.
  Conditions: none of our own.
-/
import Derived.Test.YtnfbagkeenjifaaDoorKeyR
import Derived.Test.YtnfbagkeenjifaaDoorPPx1
import Derived.Test.YtnfbagkeenjifaaDoorPPx2
namespace Go.Proofs.YtnfbagkeenjifaaDoor.KeyO
open Go.RowKit Go.Proofs.YtnfbagkeenjifaaDoor.PP Go.Proofs.YtnfbagkeenjifaaDoorW.PrintWords Go.Proofs.YtnfbagkeenjifaaDoorW.PrintLast Go.Proofs.YtnfbagkeenjifaaDoorW.PrintMore
set_option linter.unusedVariables false
/-- Nothing is asked: the example alone. -/
theorem makes_rest (a0 : ByteArray) (a1 a2 : Int) (W : World) (hG : Keys W) (h : 300 < a0.size ∨ a1 = 3 ∨ a1 = 4) :
    Calls Tryd.prog 3 #[.string a0, .int .i64 a1, .int .i64 a2] W fun e w' => e = .returned (.bool true) ∧ Below W.heap.size W w' := by
  have HG := Aside0.mk hG
  obtain ⟨b, hb0⟩ : ∃ b, decide ((a0.size : Int) > 300) = b := ⟨_, rfl⟩
  have HL := Aside0.mk (show palaverlaw05_long.f a0 = some b by unfold palaverlaw05_long.f; rw [hb0])
  cases b with
  | true =>
    clear hG h hb0
    go_enter Tryd.func3, Tryd.ntmps3
    go_wp2_with (first
      | (go_at_call 6; refine (palaverlaw05_long.calls a0 _ _ HL.out).mono ?_; rintro e w1 ⟨rfl, hd⟩; have HB := Aside0.mk (hd.below); clear hd)
      | (go_at_call 7; refine (awake_ w1 (Kd.C_below HG.out HB.out)).mono ?_; rintro e w2 ⟨rfl, hb⟩; have HB2 := Aside0.mk (below_step HB.out hb); clear hb))
    go_ret
    exact ⟨rfl, HB2.out⟩
  | false =>
    have h34 : a1 = 3 ∨ a1 = 4 := by
      rcases h with h | h
      · have := of_decide_eq_false hb0; omega
      · exact h
    have p1 : (3 ≤ a1) = True := eq_true (by omega)
    have p2 : (a1 ≤ 4) = True := eq_true (by omega)
    clear hG h hb0
    go_enter Tryd.func3, Tryd.ntmps3
    go_wp2_with (first
      | (go_at_call 6; refine (palaverlaw05_long.calls a0 _ _ HL.out).mono ?_; rintro e w1 ⟨rfl, hd⟩; have HB := Aside0.mk (hd.below); clear hd)
      | (go_at_call 7; refine (awake_ w1 (Kd.C_below HG.out HB.out)).mono ?_; rintro e w2 ⟨rfl, hb⟩; have HB2 := Aside0.mk (below_step HB.out hb); clear hb))
    go_ret
    exact ⟨rfl, HB2.out⟩
set_option maxRecDepth 100000 in
set_option maxHeartbeats 6400000 in
/-- There is a key. -/
theorem makes_key (a0 : ByteArray) (a1 a2 : Int) (W : World) (hG : Keys W) (hs : a0.size ≤ 300) (h0 : 0 ≤ a1) (h2 : a1 ≤ 2) (u0 : 0 ≤ a2) (u1 : a2 ≤ two a1) :
    Calls Tryd.prog 3 #[.string a0, .int .i64 a1, .int .i64 a2] W fun e w' => e = .returned (.bool true) ∧ Below W.heap.size W w' := by
  have HG := Aside0.mk hG
  have HL := Aside0.mk (show palaverlaw05_long.f a0 = some false by unfold palaverlaw05_long.f; rw [decide_eq_false (by omega)])
  obtain ⟨k1, hR⟩ := (rpublic_ a0 hs a1 h0 (by omega)).get
  have HR := Aside0.mk hR
  have H2 := two_le h0 (show a1 ≤ 4 by omega)
  have HH := Aside0.mk (And.intro hs (And.intro h0 (And.intro h2 (And.intro u0 u1))))
  have p1 : (3 ≤ a1) = False := eq_false (by omega)
  have p3 : (a1 < 0) = False := eq_false (by omega)
  have p4 : (4 < a1) = False := eq_false (by omega)
  have p5 : (a2 < 0) = False := eq_false (by omega)
  have p6 : ((two a1 : Int) < a2) = False := eq_false (by omega)
  have p7 : wrap64 ((two a1 : Int) - a2) = (two a1 : Int) - a2 := by unfold wrap64; omega
  clear hG hR hs h0 h2 u0 u1
  go_enter Tryd.func3, Tryd.ntmps3
  go_wp2_with (first
    | (go_at_call 6; refine (palaverlaw05_long.calls a0 _ _ HL.out).mono ?_; rintro e w1 ⟨rfl, hd⟩; have HB := Aside0.mk (hd.below); clear hd)
    | (go_at_call 7; refine (awake_ w1 (Kd.C_below HG.out HB.out)).mono ?_; rintro e w2 ⟨rfl, hb⟩; have HB2 := Aside0.mk (below_step HB.out hb); clear hb HB)
    | (go_at_call 8; refine (new_ok (lv pub) a0 a1 a2 W w2 HB2.out HH.out.2.1 (by have := HH.out; omega) HH.out.2.2.2.1 HH.out.2.2.2.2).mono ?_; rintro e w3 ⟨g, rfl, hI, hB, _, _⟩; have HI3 := Aside0.mk hI; have HB3 := Aside0.mk hB; clear hI hB HB2))
  go_loopg [8, 9] a1.toNat (fun kq v8 v9 w' => ∃ i : Nat, v8 = .int .i64 ((2 ^ i : Nat) : Int) ∧ v9 = .int .i64 (i : Int) ∧ Aside0 (i + kq = a1.toNat) ∧ Aside0 (IsKey (lv pub) W w' g a0 a1 a2) ∧ Aside0 (Below W.heap.size W w'))
  case atStart => exact ⟨0, rfl, rfl, ⟨by omega⟩, HI3, HB3⟩
  case round =>
    clear HI3 HB3
    obtain ⟨i, rfl, rfl, HI, HI3, HB3⟩ := hrel
    have hi := HI.out
    have hh := HH.out
    cases gk with
    | zero =>
      have ei : i = a1.toNat := by omega
      subst ei
      have q1 : ((a1.toNat : Int) < a1) = False := eq_false (by omega)
      have q2 : (((2 ^ a1.toNat : Nat) : Int) < a2) = False := eq_false (by have : two a1 = 2 ^ a1.toNat := rfl; omega)
      have q3 : wrap64 (((2 ^ a1.toNat : Nat) : Int) - a2) = (two a1 : Int) - a2 := p7
      have q4 : wrap64 (2 ^ a1.toNat - a2) = (two a1 : Int) - a2 := by have := p7; simp [two] at this ⊢; exact this
      have q5 : (2 ^ a1.toNat < a2) = False := eq_false (by have := q2; simp at this; omega)
      clear hi hh
      go_wp2_with (first
        | (go_at_call 9; refine (public_ g a0 a1 a2 W wr HI3.out HB3.out HH.out.1 HG.out).mono ?_; rintro e w4 ⟨rfl, hI, hB, _⟩; have HI4 := Aside0.mk hI; have HB4 := Aside0.mk hB; clear hI hB HI3 HB3)
        | (go_at_call 10; (with_reducible refine (palaverref05_Public.calls k1 a0 a1 (pubK a0 a1) _ HR.out).mono ?_); rintro e w5 ⟨rfl, hb⟩; have HI5 := Aside0.mk (HI4.out.below hb); have HB5 := Aside0.mk (below_step HB4.out hb); clear HI4 HB4 hb)
        | (go_at_call 11; refine (used (lv pub) g a0 a1 a2 W w5 HI5.out HH.out.2.2.2.1 (by have := HH.out; omega)).mono ?_; rintro e w6 ⟨rfl, hw⟩; have hw := hw.symm; subst hw)
        | (go_at_call 12; refine (left (lv pub) g a0 a1 a2 W w5 HI5.out HH.out.2.2.2.1 HH.out.2.2.2.2).mono ?_; rintro e w6 ⟨rfl, n, hw⟩; have HB6 := Aside0.mk (show Below W.heap.size W w6 by rw [hw]; exact lN_ HB5.out n); clear hw))
      go_ret
      exact ⟨rfl, HB6.out⟩
    | succ k1 =>
      have q1 : ((i : Int) < a1) = True := eq_true (by omega)
      have q2 : ((i : Int) < 5) = True := eq_true (by omega)
      have q3 : (i < 5) = True := eq_true (by omega)
      have hw1 : IntKind.i64.wrap ((i : Int) + 1) = ((i + 1 : Nat) : Int) := by rw [IntKind.wrap_i64]; omega
      have hw2 := two_up i (by omega)
      clear hi hh
      go_wp2
      go_roundg k1
      case measure => omega
      case rel => exact ⟨i + 1, by first | rfl | (refine congrArg (Value.int _) ?_; first | exact hw2 | (rw [i64_w]; exact hw2) | (simp at hw2 ⊢; exact hw2)), by first | rfl | (rw [hw1]) | (refine congrArg (Value.int _) ?_; omega), ⟨by have := HI.out; omega⟩, HI3, HB3⟩
set_option maxRecDepth 100000 in
set_option maxHeartbeats 6400000 in
/-- No key: the height is too great. -/
theorem makes_high (a0 : ByteArray) (a1 a2 : Int) (W : World) (hG : Keys W) (hs : a0.size ≤ 300) (h5 : 5 ≤ a1) :
    Calls Tryd.prog 3 #[.string a0, .int .i64 a1, .int .i64 a2] W fun e w' => e = .returned (.bool true) ∧ Below W.heap.size W w' := by
  have HG := Aside0.mk hG
  have HL := Aside0.mk (show palaverlaw05_long.f a0 = some false by unfold palaverlaw05_long.f; rw [decide_eq_false (by omega)])
  have HN := Aside0.mk (show ¬ (0 ≤ a1 ∧ a1 ≤ 4 ∧ 0 ≤ a2 ∧ a2 ≤ two a1) by omega)
  have H5 := Aside0.mk h5
  have p1 : (3 ≤ a1) = True := eq_true (by omega)
  have p2 : (a1 ≤ 4) = False := eq_false (by omega)
  have p3 : (a1 < 0) = False := eq_false (by omega)
  have p4 : (4 < a1) = True := eq_true (by omega)
  clear hG hs h5
  go_enter Tryd.func3, Tryd.ntmps3
  go_wp2_with (first
    | (go_at_call 6; refine (palaverlaw05_long.calls a0 _ _ HL.out).mono ?_; rintro e w1 ⟨rfl, hd⟩; have HB := Aside0.mk (hd.below); clear hd)
    | (go_at_call 7; refine (awake_ w1 (Kd.C_below HG.out HB.out)).mono ?_; rintro e w2 ⟨rfl, hb⟩; have HB2 := Aside0.mk (below_step HB.out hb); clear hb HB)
    | (go_at_call 8; refine (new_nil a0 a1 a2 w2 HN.out).mono ?_; rintro e w3 ⟨rfl, hw⟩; have hw := hw.symm; subst hw))
  go_loopg [8, 9] 5 (fun kq v8 v9 w' => ∃ i : Nat, v8 = .int .i64 ((2 ^ i : Nat) : Int) ∧ v9 = .int .i64 (i : Int) ∧ Aside0 (i + kq = 5) ∧ Aside0 (Below W.heap.size W w'))
  case atStart => exact ⟨0, rfl, rfl, ⟨by omega⟩, HB2⟩
  case round =>
    clear HB2
    obtain ⟨i, rfl, rfl, HI, HB2⟩ := hrel
    have hi := HI.out
    have hh := H5.out
    cases gk with
    | zero =>
      obtain rfl : i = 5 := by omega
      clear hi hh
      by_cases c : (5 : Int) < a1
      · have q1 := eq_true c
        go_wp2
        go_ret
        exact ⟨rfl, HB2.out⟩
      · have q1 := eq_false c
        go_wp2
        go_ret
        exact ⟨rfl, HB2.out⟩
    | succ k1 =>
      have q1 : ((i : Int) < a1) = True := eq_true (by omega)
      have q2 : ((i : Int) < 5) = True := eq_true (by omega)
      have q3 : (i < 5) = True := eq_true (by omega)
      have hw1 : IntKind.i64.wrap ((i : Int) + 1) = ((i + 1 : Nat) : Int) := by rw [IntKind.wrap_i64]; omega
      have hw2 : wrap64 (2 * ((2 ^ i : Nat) : Int)) = ((2 ^ (i + 1) : Nat) : Int) := by
        rcases (by omega : i = 0 ∨ i = 1 ∨ i = 2 ∨ i = 3 ∨ i = 4) with rfl | rfl | rfl | rfl | rfl <;> kernel_rfl
      clear hi hh
      go_wp2
      go_roundg k1
      case measure => omega
      case rel => exact ⟨i + 1, by first | rfl | (refine congrArg (Value.int _) ?_; first | exact hw2 | (rw [i64_w]; exact hw2) | (simp at hw2 ⊢; exact hw2)), by first | rfl | (rw [hw1]) | (refine congrArg (Value.int _) ?_; omega), ⟨by have := HI.out; omega⟩, HB2⟩
set_option maxRecDepth 100000 in
set_option maxHeartbeats 6400000 in
/-- No key: the height is below nothing, or so many leaves aren't there. -/
theorem makes_low (a0 : ByteArray) (a1 a2 : Int) (W : World) (hG : Keys W) (hs : a0.size ≤ 300) (h2 : a1 ≤ 2) (hn : ¬ (0 ≤ a1 ∧ a1 ≤ 4 ∧ 0 ≤ a2 ∧ a2 ≤ two a1)) :
    Calls Tryd.prog 3 #[.string a0, .int .i64 a1, .int .i64 a2] W fun e w' => e = .returned (.bool true) ∧ Below W.heap.size W w' := by
  have HG := Aside0.mk hG
  have HL := Aside0.mk (show palaverlaw05_long.f a0 = some false by unfold palaverlaw05_long.f; rw [decide_eq_false (by omega)])
  have HN := Aside0.mk hn
  have H2 := Aside0.mk h2
  have p1 : (3 ≤ a1) = False := eq_false (by omega)
  clear hG hs h2 hn
  go_enter Tryd.func3, Tryd.ntmps3
  go_wp2_with (first
    | (go_at_call 6; refine (palaverlaw05_long.calls a0 _ _ HL.out).mono ?_; rintro e w1 ⟨rfl, hd⟩; have HB := Aside0.mk (hd.below); clear hd)
    | (go_at_call 7; refine (awake_ w1 (Kd.C_below HG.out HB.out)).mono ?_; rintro e w2 ⟨rfl, hb⟩; have HB2 := Aside0.mk (below_step HB.out hb); clear hb HB)
    | (go_at_call 8; refine (new_nil a0 a1 a2 w2 HN.out).mono ?_; rintro e w3 ⟨rfl, hw⟩; have hw := hw.symm; subst hw))
  go_loopg [8, 9] a1.toNat (fun kq v8 v9 w' => ∃ i : Nat, v8 = .int .i64 ((2 ^ i : Nat) : Int) ∧ v9 = .int .i64 (i : Int) ∧ Aside0 (i + kq = a1.toNat) ∧ Aside0 (Below W.heap.size W w'))
  case atStart => exact ⟨0, rfl, rfl, ⟨by omega⟩, HB2⟩
  case round =>
    clear HB2
    obtain ⟨i, rfl, rfl, HI, HB2⟩ := hrel
    have hi := HI.out
    have hh := H2.out
    have hn := HN.out
    cases gk with
    | zero =>
      have ei : i = a1.toNat := by omega
      subst ei
      have q1 : ((a1.toNat : Int) < a1) = False := eq_false (by omega)
      by_cases c1 : a1 < 0
      · have r1 := eq_true c1
        clear hi hh hn
        go_wp2
        go_ret
        exact ⟨rfl, HB2.out⟩
      · have r1 := eq_false c1
        have r2 : (4 < a1) = False := eq_false (by omega)
        by_cases c2 : a2 < 0
        · have r3 := eq_true c2
          clear hi hh hn
          go_wp2
          go_ret
          exact ⟨rfl, HB2.out⟩
        · have r3 := eq_false c2
          have r4 : (((2 ^ a1.toNat : Nat) : Int) < a2) = True := eq_true (by have : two a1 = 2 ^ a1.toNat := rfl; omega)
          have r5 : (2 ^ a1.toNat < a2) = True := by simpa using r4
          clear hi hh hn
          go_wp2
          go_ret
          exact ⟨rfl, HB2.out⟩
    | succ k1 =>
      have q1 : ((i : Int) < a1) = True := eq_true (by omega)
      have q2 : ((i : Int) < 5) = True := eq_true (by omega)
      have q3 : (i < 5) = True := eq_true (by omega)
      have hw1 : IntKind.i64.wrap ((i : Int) + 1) = ((i + 1 : Nat) : Int) := by rw [IntKind.wrap_i64]; omega
      have hw2 := two_up i (by omega)
      clear hi hh hn
      go_wp2
      go_roundg k1
      case measure => omega
      case rel => exact ⟨i + 1, by first | rfl | (refine congrArg (Value.int _) ?_; first | exact hw2 | (rw [i64_w]; exact hw2) | (simp at hw2 ⊢; exact hw2)), by first | rfl | (rw [hw1]) | (refine congrArg (Value.int _) ?_; omega), ⟨by have := HI.out; omega⟩, HB2⟩
theorem hand_KeyMakes (a0 : ByteArray) (a1 a2 : Int) (W : World) (_w0 : a0.size ≤ 140737488351232) (_w1 : (Lit.int .i64 a1).wf = true) (_w2 : (Lit.int .i64 a2).wf = true) (hG : Keys W) :
    Calls Tryd.prog 3 #[.string a0, .int .i64 a1, .int .i64 a2] W fun e w' => e = .returned (.bool true) ∧ Below W.heap.size W w' := by
  by_cases h : 300 < a0.size ∨ a1 = 3 ∨ a1 = 4
  · exact makes_rest a0 a1 a2 W hG h
  · by_cases h5 : 5 ≤ a1
    · exact makes_high a0 a1 a2 W hG (by omega) h5
    · by_cases hn : 0 ≤ a1 ∧ a1 ≤ 4 ∧ 0 ≤ a2 ∧ a2 ≤ two a1
      · exact makes_key a0 a1 a2 W hG (by omega) hn.1 (by omega) hn.2.2.1 hn.2.2.2
      · exact makes_low a0 a1 a2 W hG (by omega) (by omega) hn
end Go.Proofs.YtnfbagkeenjifaaDoor.KeyO
