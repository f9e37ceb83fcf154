/-
  KeySpends: a key signs as often as it has leaves left, each time by another one, and each signature is right for its message; then it is spent, and stays so.
  Conditions: none of our own.
-/
import Derived.Test.YtnfbagkeenjifaaGreatDoorKeyS
import Derived.Test.YtnfbagkeenjifaaGreatDoorPPx1
import Derived.Test.YtnfbagkeenjifaaGreatDoorPPx3
namespace Go.Proofs.YtnfbagkeenjifaaGreatDoor.KeyO
open Go.RowKit Go.Proofs.YtnfbagkeenjifaaGreatDoor.PP Go.Proofs.YtnfbagkeenjifaaGreatDoorW.PrintWords Go.Proofs.YtnfbagkeenjifaaGreatDoorW.PrintLast Go.Proofs.YtnfbagkeenjifaaGreatDoorW.PrintMore
set_option linter.unusedVariables false
theorem two_ne (h : Int) : ((two h : Int) + 1 = 0) = False := eq_false (by omega)
set_option maxRecDepth 100000 in
set_option maxHeartbeats 6400000 in
theorem spends_rest (a0 : ByteArray) (a1 a2 : Int) (A3 : Option Addr) (c3 : Nat) (l3 : List ByteArray) (W : World) (hG : Keys W) (h : 300 < a0.size ∨ 8 < l3.length) :
    Calls Tryz.prog 6 #[.string a0, .int .i64 a1, .int .i64 a2, .slice A3 l3.length c3] W fun e w' => e = .returned (.bool true) ∧ Below W.heap.size W w' := by
  have HG := Aside0.mk hG
  obtain ⟨b, hb0⟩ : ∃ b, decide ((a0.size : Int) > 300) = b := ⟨_, rfl⟩
  have HL := Aside0.mk (show palaverlaw05_long.f a0 = some b by unfold palaverlaw05_long.f; rw [hb0])
  have hbc : b = true ∨ (b = false ∧ 8 < l3.length) := by
    cases b
    · right
      have h1 := of_decide_eq_false hb0
      exact ⟨rfl, by omega⟩
    · exact .inl rfl
  clear hG h hb0
  rcases hbc with rfl | ⟨rfl, h3⟩
  · go_enter Tryz.func6, Tryz.ntmps6
    go_wp2_with (first
      | (go_at_call 9; refine (palaverlaw05_long.calls a0 _ _ HL.out).mono ?_; rintro e w1 ⟨rfl, hd⟩; have HB := Aside0.mk (hd.below); clear hd)
      | (go_at_call 10; refine (awake_ w1 (Kd.C_below HG.out HB.out)).mono ?_; rintro e w2 ⟨rfl, hb⟩; have HB2 := Aside0.mk (below_step HB.out hb); clear hb))
    go_ret
    exact ⟨rfl, HB2.out⟩
  · have p1 : (8 < (l3.length : Int)) = True := eq_true (by omega)
    have p2 : (8 < l3.length) = True := eq_true h3
    clear h3
    go_enter Tryz.func6, Tryz.ntmps6
    go_wp2_with (first
      | (go_at_call 9; refine (palaverlaw05_long.calls a0 _ _ HL.out).mono ?_; rintro e w1 ⟨rfl, hd⟩; have HB := Aside0.mk (hd.below); clear hd)
      | (go_at_call 10; refine (awake_ w1 (Kd.C_below HG.out HB.out)).mono ?_; rintro e w2 ⟨rfl, hb⟩; have HB2 := Aside0.mk (below_step HB.out hb); clear hb))
    go_ret
    exact ⟨rfl, HB2.out⟩
set_option maxRecDepth 100000 in
set_option maxHeartbeats 6400000 in
theorem hand_KeySpends {Y : Prop} (a0 : ByteArray) (a1 a2 : Int) (A3 : Option Addr) (c3 : Nat) (l3 : List ByteArray) (W : World) (_w0 : a0.size ≤ 140737488351232) (_w1 : (Lit.int .i64 a1).wf = true) (_w2 : (Lit.int .i64 a2).wf = true) (_y3 : Y) (hr3 : Kd.C Kd.string W A3 l3.length l3) (_hc3 : l3.length ≤ c3) (hG : Keys W) :
    Calls Tryz.prog 6 #[.string a0, .int .i64 a1, .int .i64 a2, .slice A3 l3.length c3] W fun e w' => e = .returned (.bool true) ∧ Below W.heap.size W w' := by
  by_cases hlong : 300 < a0.size ∨ 8 < l3.length
  · exact spends_rest a0 a1 a2 A3 c3 l3 W hG hlong
  have hs : a0.size ≤ 300 := by omega
  have hl : l3.length ≤ 8 := by omega
  obtain ⟨h, h0, h2, hsm⟩ := small_ a1
  have hn := two_le h0 (show h ≤ 4 by omega)
  have p1 : (0 ≤ h) = True := eq_true h0
  have p2 : (h ≤ 4) = True := eq_true (by omega)
  have p3 : ((two h : Int) + 1 = 0) = False := two_ne h
  have p4 : (8 < (l3.length : Int)) = False := eq_false (by omega)
  have p5 : (8 < l3.length) = False := eq_false (by omega)
  obtain ⟨u0, hu0, hu1, hu⟩ := rem_ a2 (two h) (by omega)
  obtain ⟨hx1, hx2⟩ := u64_two h h0 (by omega)
  have hsh := shl64 h h0 (by omega)
  have hsh2 : wrap64 (2 ^ min h.toNat 64) = (two h : Int) := by rw [Nat.min_eq_left (by omega)]; exact hsh
  have HG := Aside0.mk hG
  have HL := Aside0.mk (show palaverlaw05_long.f a0 = some false by unfold palaverlaw05_long.f; rw [decide_eq_false (by omega)])
  have HS := Aside0.mk hsm
  have HR := Aside0.mk hr3
  have HH := Aside0.mk (And.intro hs (And.intro h0 (And.intro h2 (And.intro hn hl))))
  have HU0 := Aside0.mk (And.intro hu0 hu1)
  clear hG hsm hs h0 h2 hu0 hu1 hlong hr3 hn hl
  go_enter Tryz.func6, Tryz.ntmps6
  go_wp2_with (first
    | (go_at_call 9; refine (palaverlaw05_long.calls a0 _ W HL.out).mono ?_; rintro e w1 ⟨rfl, hd⟩; have HB1 := Aside0.mk (hd.below); clear hd HL)
    | (go_at_call 10; refine (awake_ w1 (Kd.C_below HG.out HB1.out)).mono ?_; rintro e w2 ⟨rfl, hb⟩; have HB2 := Aside0.mk (below_step HB1.out hb); clear hb)
    | (go_at_call 16; refine (palaverlaw05_small.calls a1 h w2 HS.out).mono ?_; rintro e w3 ⟨rfl, hd⟩; have HB3 := Aside0.mk (below_step HB2.out hd.below); clear hd)
    | (go_at_call 15; refine (new_ok (lv pub) a0 h u0 W w3 HB3.out HH.out.2.1 (by have := HH.out; omega) HU0.out.1 HU0.out.2).mono ?_; rintro e w4 ⟨g, rfl, hI, hB, _, _⟩; have HI4 := Aside0.mk hI; have HB4 := Aside0.mk hB; clear hI hB)
    | (go_at_call 18; refine (public_ g a0 h u0 W w4 HI4.out HB4.out HH.out.1 HG.out).mono ?_; rintro e w5 ⟨rfl, hI, hB, _⟩; have HI5 := Aside0.mk hI; have HB5 := Aside0.mk hB; clear hI hB))
  go_loopg [13] l3.length (fun kq v13 w' => ∃ (i : Nat) (u : Int), v13 = .int .i64 (i : Int) ∧ Aside0 (i + kq = l3.length) ∧ Aside0 (0 ≤ u ∧ u ≤ two h) ∧ Aside0 (IsKey (lv pub) W w' g a0 h u) ∧ Aside0 (Below W.heap.size W w'))
  case atStart => exact ⟨0, u0, rfl, ⟨by omega⟩, HU0, HI5, HB5⟩
  case round =>
    clear HB1 HB2 HB3 HB4 HB5 HI4 HI5 hu HU0
    obtain ⟨i, u, rfl, HI, HU, HI5, HB5⟩ := hrel
    have hi := HI.out
    cases gk with
    | zero =>
      have q1 : ((i : Int) < (l3.length : Int)) = False := eq_false (by omega)
      have q2 : (i < l3.length) = False := eq_false (by omega)
      clear hi
      go_wp2_with (go_at_call 18; refine (public_ g a0 h u W wr HI5.out HB5.out HH.out.1 HG.out).mono ?_; rintro e w6 ⟨rfl, hI, hB, _⟩; have HB6 := Aside0.mk hB; clear hI hB)
      go_ret
      exact ⟨rfl, HB6.out⟩
    | succ k1 =>
      have q1 : ((i : Int) < (l3.length : Int)) = True := eq_true (by omega)
      have q2 : (i < l3.length) = True := eq_true (by omega)
      obtain ⟨ad, e4_, hx⟩ := Kd.at_string HR.out (i : Int) (by omega) (by omega)
      cases e4_
      rw [Int.toNat_natCast] at hx
      obtain ⟨m, hm⟩ : ∃ m, rdOf ByteArray.empty l3 (i : Int) = m := ⟨_, rfl⟩
      rw [hm] at hx
      have HX := Aside0.mk (show ∀ w', Below W.heap.size W w' → w'.cell? (ad.add i) = some (.string m) from fun w' hb => (hb.cell (World.block_lt_of_cell? W _ hx)).trans hx)
      have hw1 : IntKind.i64.wrap ((i : Int) + 1) = ((i + 1 : Nat) : Int) := by rw [IntKind.wrap_i64]; have := HH.out; omega
      have hx0 := HX.out _ HB5.out
      clear hm hx hi
      obtain ⟨b, hb0⟩ : ∃ b, decide ((m.size : Int) > 300) = b := ⟨_, rfl⟩
      have HL := Aside0.mk (show palaverlaw05_long.f m = some b by unfold palaverlaw05_long.f; rw [hb0])
      cases b with
      | true =>
        clear hb0
        go_wp2_with (go_at_call 9; refine (palaverlaw05_long.calls m _ wr HL.out).mono ?_; rintro e w6 ⟨rfl, hd⟩; have HB6 := Aside0.mk (below_step HB5.out hd.below); clear hd)
        go_ret
        exact ⟨rfl, HB6.out⟩
      | false =>
        have HM := Aside0.mk (show m.size ≤ 300 by have := of_decide_eq_false hb0; omega)
        clear hb0
        obtain ⟨lf, hlf⟩ : ∃ lf : Int, (two h : Int) - u = lf := ⟨_, rfl⟩
        have HLF := Aside0.mk hlf
        have hU := HU.out
        by_cases hsp : u = two h
        · refine Nonempty.elim ?ga id
          letI i_ : type_of% ?ga := ⟨by
            have e0 : lf = 0 := by omega
            subst e0
            clear hlf hU
            go_wp2_with (first
              | (go_at_call 9; refine (palaverlaw05_long.calls m _ wr HL.out).mono ?_; rintro e w6 ⟨rfl, hd⟩; have HI6 := Aside0.mk (HI5.out.below hd.below); have HB6 := Aside0.mk (below_step HB5.out hd.below); clear hd HL hx0; have hx0 := HX.out _ HB6.out)
              | (go_at_call 22; refine (left (lv pub) g a0 h u W w6 HI6.out HU.out.1 HU.out.2).mono ?_; rintro e w7 ⟨he, n, hw⟩; rw [HLF.out] at he; subst he; have HI7 := Aside0.mk (show IsKey (lv pub) W w7 g a0 h u by rw [hw]; exact HI6.out.drewN n); have HB7 := Aside0.mk (show Below W.heap.size W w7 by rw [hw]; exact lN_ HB6.out n); clear hw HI6 HB6 hx0; have hx0 := HX.out _ HB7.out)
              | (go_at_call 17; refine (sign_spent g a0 h u m W w7 HI7.out hsp).mono ?_; rintro e w8 ⟨rfl, hw⟩; have hw := hw.symm; subst hw)
              | (go_at_call 22; refine (left (lv pub) g a0 h u W w7 HI7.out HU.out.1 HU.out.2).mono ?_; rintro e w9 ⟨he, n, hw⟩; rw [HLF.out] at he; subst he; have HI9 := Aside0.mk (show IsKey (lv pub) W w9 g a0 h u by rw [hw]; exact HI7.out.drewN n); have HB9 := Aside0.mk (show Below W.heap.size W w9 by rw [hw]; exact lN_ HB7.out n); clear hw HI7 HB7 hx0))
            go_roundg k1
            case measure => omega
            case rel => exact ⟨i + 1, u, by first | rfl | (rw [hw1]) | (refine congrArg (Value.int _) ?_; omega), ⟨by have := HI.out; omega⟩, HU, HI9, HB9⟩
            ⟩
          exact inferInstanceAs _
        · refine Nonempty.elim ?gb id
          letI i_ : type_of% ?gb := ⟨by
            have HUL := Aside0.mk (show u < two h by omega)
            obtain ⟨k2, hF⟩ := (leaf_sig a0 h u HH.out.2.1 (by have := HH.out; omega) HU.out.1 HUL.out m).get
            obtain ⟨k3, hV⟩ := (verify_sig a0 h u HH.out.2.1 (by have := HH.out; omega) HU.out.1 HUL.out m (by have := HM.out; omega)).get
            obtain ⟨S, hS⟩ : ∃ S, sigK a0 h u m = S := ⟨_, rfl⟩
            rw [hS] at hF hV
            have HF := Aside0.mk hF
            have HV := Aside0.mk hV
            have HSG := Aside0.mk hS
            have HLF2 := Aside0.mk (show (two h : Int) - (u + 1) = lf - 1 by omega)
            have hh := HH.out
            have e1 : (lf = 0) = False := eq_false (by omega)
            have e2 : (lf == 0) = false := beq_eq_false_iff_ne.2 (by omega)
            have e3 : wrap64 (lf - 1) = lf - 1 := by unfold wrap64; omega
            have e4 : wrap64 ((two h : Int) - lf) = u := by unfold wrap64; omega
            clear hlf hU hF hV hS hh
            go_wp2_with (first
              | (go_at_call 9; refine (palaverlaw05_long.calls m _ wr HL.out).mono ?_; rintro e w6 ⟨rfl, hd⟩; have HI6 := Aside0.mk (HI5.out.below hd.below); have HB6 := Aside0.mk (below_step HB5.out hd.below); clear hd HL hx0; have hx0 := HX.out _ HB6.out)
              | (go_at_call 22; refine (left (lv pub) g a0 h u W w6 HI6.out HU.out.1 HU.out.2).mono ?_; rintro e w7 ⟨he, n, hw⟩; rw [HLF.out] at he; subst he; have HI7 := Aside0.mk (show IsKey (lv pub) W w7 g a0 h u by rw [hw]; exact HI6.out.drewN n); have HB7 := Aside0.mk (show Below W.heap.size W w7 by rw [hw]; exact lN_ HB6.out n); clear hw HI6 HB6 hx0; have hx0 := HX.out _ HB7.out)
              | (go_at_call 17; refine (sign_ok g a0 h u m W w7 HI7.out HB7.out HH.out.1 (by have := HM.out; omega) HG.out HU.out.1 HUL.out).mono ?_; rintro e w8 ⟨he, hI, hB, _⟩; rw [HSG.out] at he; subst he; have HI8 := Aside0.mk hI; have HB8 := Aside0.mk hB; clear hI hB HI7 HB7 hx0; have hx0 := HX.out _ HB8.out)
              | (go_at_call 13; (with_reducible refine (key_Leaf.calls k2 S u true _ HF.out).mono ?_); rintro e w9 ⟨rfl, hb⟩; have HI9 := Aside0.mk (HI8.out.below hb); have HB9 := Aside0.mk (below_step HB8.out hb); clear hb HI8 HB8 hx0; have hx0 := HX.out _ HB9.out)
              | (go_at_call 22; refine (left (lv pub) g a0 h (u + 1) W w9 HI9.out (by have := HU.out; omega) (by have := HUL.out; omega)).mono ?_; rintro e w10 ⟨he, n, hw⟩; rw [HLF2.out] at he; subst he; have HI10 := Aside0.mk (show IsKey (lv pub) W w10 g a0 h (u + 1) by rw [hw]; exact HI9.out.drewN n); have HB10 := Aside0.mk (show Below W.heap.size W w10 by rw [hw]; exact lN_ HB9.out n); clear hw HI9 HB9 hx0; have hx0 := HX.out _ HB10.out)
              | (go_at_call 14; (with_reducible refine (key_Verify.calls k3 (pubK a0 h) m S true w10 (Kd.C_below HG.out HB10.out) HV.out).mono ?_); rintro e w11 ⟨rfl, hb⟩; have HI11 := Aside0.mk (HI10.out.below hb); have HB11 := Aside0.mk (below_step HB10.out hb); clear hb HI10 HB10 hx0))
            go_roundg k1
            case measure => omega
            case rel => exact ⟨i + 1, u + 1, by first | rfl | (rw [hw1]) | (refine congrArg (Value.int _) ?_; omega), ⟨by have := HI.out; omega⟩, ⟨by have := HU.out; have := HUL.out; omega⟩, HI11, HB11⟩
            ⟩
          exact inferInstanceAs _
end Go.Proofs.YtnfbagkeenjifaaGreatDoor.KeyO
