/-
  KeyOther: a signature is right for no other message and no other key, or it is excused.
  Conditions: none of our own.
-/
import Derived.Test.YtnfbagkeenjifaaGreatDoorKeyS
import Derived.Test.YtnfbagkeenjifaaGreatDoorBno
import Derived.Test.YtnfbagkeenjifaaGreatDoorPPx1
import Derived.Test.YtnfbagkeenjifaaGreatDoorPPx3
namespace Go.Proofs.YtnfbagkeenjifaaGreatDoor.KeyO
open Go.RowKit Go.Proofs.YtnfbagkeenjifaaGreatDoor.PP Go.Proofs.YtnfbagkeenjifaaGreatDoorW.PrintWords Go.Proofs.YtnfbagkeenjifaaGreatDoorW.PrintLast Go.Proofs.YtnfbagkeenjifaaGreatDoorW.PrintMore
set_option linter.unusedVariables false
theorem long_any (a : ByteArray) : ∃ b, palaverlaw05_long.f a = some b ∧ (b = true ∨ (b = false ∧ a.size ≤ 300)) := by
  unfold palaverlaw05_long.f
  by_cases c : (a.size : Int) > 300
  · exact ⟨true, by rw [decide_eq_true c], .inl rfl⟩
  · exact ⟨false, by rw [decide_eq_false c], .inr ⟨rfl, by omega⟩⟩
set_option maxRecDepth 100000 in
set_option maxHeartbeats 6400000 in
theorem other_rest (a0 a1 : ByteArray) (a2 : Int) (a3 a4 : ByteArray) (W : World) (hG : Keys W) (b0 b1 b3 b4 : Bool) (h0 : palaverlaw05_long.f a0 = some b0) (h1 : palaverlaw05_long.f a1 = some b1) (h3 : palaverlaw05_long.f a3 = some b3) (h4 : palaverlaw05_long.f a4 = some b4)
    (h : b0 = true ∨ (b0 = false ∧ (b1 = true ∨ (b1 = false ∧ (b3 = true ∨ (b3 = false ∧ b4 = true)))))) :
    Calls Tryz.prog 5 #[.string a0, .string a1, .int .i64 a2, .string a3, .string a4] W fun e w' => e = .returned (.bool true) ∧ Below W.heap.size W w' := by
  have HG := Aside0.mk hG
  have H0 := Aside0.mk h0
  have H1 := Aside0.mk h1
  have H3 := Aside0.mk h3
  have H4 := Aside0.mk h4
  clear hG h0 h1 h3 h4
  rcases h with rfl | ⟨rfl, rfl | ⟨rfl, rfl | ⟨rfl, rfl⟩⟩⟩
  all_goals
    go_enter Tryz.func5, Tryz.ntmps5
    go_wp2_with (first
      | (go_at_call 9; refine (palaverlaw05_long.calls a0 _ W H0.out).mono ?_; rintro e w1 ⟨rfl, hd⟩; have HB := Aside0.mk (hd.below); clear hd H0)
      | (go_at_call 9; refine (palaverlaw05_long.calls a1 _ _ H1.out).mono ?_; rintro e w2 ⟨rfl, hd⟩; replace HB := Aside0.mk (below_step HB.out hd.below); clear hd H1)
      | (go_at_call 9; refine (palaverlaw05_long.calls a3 _ _ H3.out).mono ?_; rintro e w3 ⟨rfl, hd⟩; replace HB := Aside0.mk (below_step HB.out hd.below); clear hd H3)
      | (go_at_call 9; refine (palaverlaw05_long.calls a4 _ _ H4.out).mono ?_; rintro e w4 ⟨rfl, hd⟩; replace HB := Aside0.mk (below_step HB.out hd.below); clear hd H4)
      | (go_at_call 10; refine (awake_ _ (Kd.C_below HG.out HB.out)).mono ?_; rintro e w5 ⟨rfl, hb⟩; replace HB := Aside0.mk (below_step HB.out hb); clear hb))
    go_ret
    exact ⟨rfl, HB.out⟩
theorem same_or (x y : ByteArray) : (x = y ∧ (x.toList = y.toList) = True ∧ (x.toList == y.toList) = true ∧ (x.toList != y.toList) = false) ∨ (¬ x = y ∧ (x.toList = y.toList) = False ∧ (x.toList == y.toList) = false ∧ (x.toList != y.toList) = true) := by
  by_cases e : x = y
  · subst e
    exact .inl ⟨rfl, eq_true rfl, beq_self_eq_true _, bne_self_eq_false _⟩
  · have e1 : ¬ x.toList = y.toList := fun z => e ((Oct.toList_eq _ _).1 z)
    exact .inr ⟨e, eq_false e1, beq_eq_false_iff_ne.2 e1, bne_iff_ne.2 e1⟩
/-- The plain law. -/
theorem other_law (a0 a1 : ByteArray) (h : Int) (a3 a4 : ByteArray) (h0 : 0 ≤ h) (h4 : h ≤ 4) (hp : (0 : Int) < two h) (hm : a3.size ≤ 300) (hm4 : a4.size ≤ 300) (S : ByteArray) (hS : sigK a0 h 0 a3 = S) :
    ∃ (b : Bool) (r1 r2 r : List ByteArray), Sha.Ev (fun k => key_Verify.f k (pubK a0 h) a3 S) true ∧ Sha.Ev (fun k => palaverref05_Verify.f k (pubK a0 h) a3 S) (true, r1) ∧ Sha.Ev (fun k => key_Verify.f k (pubK a0 h) a4 S) b ∧ Sha.Ev (fun k => palaverref05_Verify.f k (pubK a0 h) a4 S) (b, r2) ∧
      palaverref05_Both.f r1 r2 = some r ∧ (a4 ≠ a3 → b = true → Sha.Ev (fun k => palaverref05_Excused.f k r S) true) ∧ (pubK a0 h ≠ pubK a1 h → Sha.Ev (fun k => key_Verify.f k (pubK a1 h) a3 S) false) := by
  have hz := sigK_size a0 h 0 (by omega) hp a3
  have eS := parts_sig a0 h 0 h0 (by omega) (by omega) hp a3
  have hv := verify_sig a0 h 0 h0 (by omega) (by omega) hp a3 (by omega)
  rw [hS] at hz eS hv
  have hn := two_le h0 h4
  have vS := Sha.verify_way (pubK a0 h) a3 S (by omega) (by omega) 0 _ _ eS
  have vT := Sha.verify_way (pubK a0 h) a4 S (by omega) (by omega) 0 _ _ eS
  have vO := Sha.verify_way (pubK a1 h) a3 S (by omega) (by omega) 0 _ _ eS
  obtain ⟨n1, n2, n3, n4, n5, n6, _⟩ := Oct.Evt.parts5_ok eS
  generalize valsK a0 0 a3 = vs at *
  generalize pathK a0 h 0 = ps at *
  have e1 := Sha.Ev.inj vS.1 hv
  rw [e1] at vS
  have e2 := (Oct.toList_eq _ _).1 (eq_of_beq e1)
  obtain ⟨w1, w2⟩ := Sha.way_ok a3 (by omega) 0 vs ps n3 n5 (by omega) n6
  obtain ⟨w3, w4⟩ := Sha.way_ok a4 (by omega) 0 vs ps n3 n5 (by omega) n6
  refine ⟨_, _, _, Sha.way a3 0 vs ps ++ Sha.way a4 0 vs ps, vS.1, vS.2, vT.1, vT.2, ?_, fun hn hb => ?_, fun hn => ?_⟩
  · unfold palaverref05_Both.f
    simp only [List.nil_append, Option.bind_some, List.length_nil]
    rw [if_pos (by omega), if_pos (by omega)]
  · have e3 := (Oct.toList_eq _ _).1 (eq_of_beq hb)
    exact Sha.other_excused a3 a4 S (fun e => hn e.symm) (by omega) (by omega) (by omega) 0 vs ps eS (e2.trans e3.symm)
  · have e3 : ((Sha.pbx a3 0 vs ps).toList == (pubK a1 h).toList) = false := beq_eq_false_iff_ne.2 (fun e => hn (e2.symm.trans ((Oct.toList_eq _ _).1 e)))
    rw [e3] at vO
    exact vO.1
set_option maxRecDepth 100000 in
set_option maxHeartbeats 6400000 in
theorem hand_KeyOther (a0 a1 : ByteArray) (a2 : Int) (a3 a4 : ByteArray) (W : World) (_w0 : a0.size ≤ 140737488351232) (_w1 : a1.size ≤ 140737488351232) (_w2 : (Lit.int .i64 a2).wf = true) (_w3 : a3.size ≤ 140737488351232) (_w4 : a4.size ≤ 140737488351232) (hG : Keys W) :
    Calls Tryz.prog 5 #[.string a0, .string a1, .int .i64 a2, .string a3, .string a4] W fun e w' => e = .returned (.bool true) ∧ Below W.heap.size W w' := by
  obtain ⟨b0, hl0, c0⟩ := long_any a0
  obtain ⟨b1, hl1, c1⟩ := long_any a1
  obtain ⟨b3, hl3, c3⟩ := long_any a3
  obtain ⟨b4, hl4, c4⟩ := long_any a4
  by_cases hlong : b0 = true ∨ (b0 = false ∧ (b1 = true ∨ (b1 = false ∧ (b3 = true ∨ (b3 = false ∧ b4 = true)))))
  · exact other_rest a0 a1 a2 a3 a4 W hG b0 b1 b3 b4 hl0 hl1 hl3 hl4 hlong
  obtain ⟨rfl, s0⟩ : b0 = false ∧ a0.size ≤ 300 := c0.resolve_left (fun e => hlong (.inl e))
  obtain ⟨rfl, s1⟩ : b1 = false ∧ a1.size ≤ 300 := c1.resolve_left (fun e => hlong (.inr ⟨rfl, .inl e⟩))
  obtain ⟨rfl, s3⟩ : b3 = false ∧ a3.size ≤ 300 := c3.resolve_left (fun e => hlong (.inr ⟨rfl, .inr ⟨rfl, .inl e⟩⟩))
  obtain ⟨rfl, s4⟩ : b4 = false ∧ a4.size ≤ 300 := c4.resolve_left (fun e => hlong (.inr ⟨rfl, .inr ⟨rfl, .inr ⟨rfl, e⟩⟩⟩))
  clear c0 c1 c3 c4 hlong
  obtain ⟨h, h0, h2, hsm⟩ := small_ a2
  have hp2 : (0 : Int) < two h := by have : 0 < two h := Nat.pow_pos (by decide); omega
  have HG := Aside0.mk hG
  have H0 := Aside0.mk hl0
  have H1 := Aside0.mk hl1
  have H3 := Aside0.mk hl3
  have H4 := Aside0.mk hl4
  have HS := Aside0.mk hsm
  have HH := Aside0.mk (And.intro s0 (And.intro s1 (And.intro s3 (And.intro h0 (And.intro h2 hp2)))))
  obtain ⟨S, hS⟩ : ∃ S, sigK a0 h 0 a3 = S := ⟨_, rfl⟩
  obtain ⟨b, r1, r2, r, hV1, hV2, hV3, hV4, hBo, hEx, hOt⟩ := other_law a0 a1 h a3 a4 h0 (by omega) hp2 s3 s4 S hS
  obtain ⟨k1, hV1⟩ := hV1.get
  obtain ⟨k2, hV2⟩ := hV2.get
  obtain ⟨k3, hV3⟩ := hV3.get
  obtain ⟨k4, hV4⟩ := hV4.get
  have HSG := Aside0.mk hS
  have HV1 := Aside0.mk hV1
  have HV2 := Aside0.mk hV2
  have HV3 := Aside0.mk hV3
  have HV4 := Aside0.mk hV4
  have HBo := Aside0.mk hBo
  have HEx := Aside0.mk hEx
  have HOt := Aside0.mk hOt
  clear hG hl0 hl1 hl3 hl4 s0 s1 s3 s4 hsm h0 h2 hp2 hS hV1 hV2 hV3 hV4 hBo hEx hOt
  go_enter Tryz.func5, Tryz.ntmps5
  go_upto_region 10 with (first
    | (go_at_call 9; refine (palaverlaw05_long.calls a0 _ W H0.out).mono ?_; rintro e w1 ⟨rfl, hd⟩; have HB1 := Aside0.mk (hd.below); clear hd H0)
    | (go_at_call 9; refine (palaverlaw05_long.calls a1 _ w1 H1.out).mono ?_; rintro e w2 ⟨rfl, hd⟩; have HB2 := Aside0.mk (below_step HB1.out hd.below); clear hd H1 HB1)
    | (go_at_call 9; refine (palaverlaw05_long.calls a3 _ w2 H3.out).mono ?_; rintro e w3 ⟨rfl, hd⟩; have HB3 := Aside0.mk (below_step HB2.out hd.below); clear hd H3 HB2)
    | (go_at_call 9; refine (palaverlaw05_long.calls a4 _ w3 H4.out).mono ?_; rintro e w4 ⟨rfl, hd⟩; have HB4 := Aside0.mk (below_step HB3.out hd.below); clear hd H4 HB3)
    | (go_at_call 10; refine (awake_ w4 (Kd.C_below HG.out HB4.out)).mono ?_; rintro e w5 ⟨rfl, hb⟩; have HB5 := Aside0.mk (below_step HB4.out hb); clear hb HB4)
    | (go_at_call 16; refine (palaverlaw05_small.calls a2 h w5 HS.out).mono ?_; rintro e w6 ⟨rfl, hd⟩; have HB6 := Aside0.mk (below_step HB5.out hd.below); clear hd HB5)
    | (go_at_call 15; refine (new_ok (lv pub) a0 h 0 W w6 HB6.out HH.out.2.2.2.1 (by have := HH.out; omega) (by omega) (by have := HH.out; omega)).mono ?_; rintro e w7 ⟨g, rfl, hI, hB, _, _⟩; have HI7 := Aside0.mk hI; have HB7 := Aside0.mk hB; clear hI hB HB6)
    | (go_at_call 16; refine (palaverlaw05_small.calls a2 h w7 HS.out).mono ?_; rintro e w8 ⟨rfl, hd⟩; have HI8 := Aside0.mk (HI7.out.below hd.below); have HB8 := Aside0.mk (below_step HB7.out hd.below); clear hd HI7 HB7)
    | (go_at_call 15; refine (new_ok (lv pub) a1 h 0 W w8 HB8.out HH.out.2.2.2.1 (by have := HH.out; omega) (by omega) (by have := HH.out; omega)).mono ?_; rintro e w9 ⟨g2, rfl, hJ, hB, hb, hge⟩; have HNE := Aside0.mk (show g2 ≠ g from fun e => by have := HI8.out.lt; omega); have HI9 := Aside0.mk (HI8.out.below hb); have HJ9 := Aside0.mk hJ; have HB9 := Aside0.mk hB; clear hJ hB hb hge HI8 HB8)
    | (go_at_call 17; refine (sign_ok g a0 h 0 a3 W w9 HI9.out HB9.out HH.out.1 (by have := HH.out; omega) HG.out (by omega) HH.out.2.2.2.2.2).mono ?_; rintro e w10 ⟨he, hI, hB, hK⟩; rw [HSG.out] at he; subst he; have HI10 := Aside0.mk hI; have HJ10 := Aside0.mk (HJ9.out.keep HI9.out hK HNE.out); have HB10 := Aside0.mk hB; clear hI hB hK HI9 HJ9 HB9)
    | (go_at_call 18; refine (public_ g a0 h (0 + 1) W w10 HI10.out HB10.out HH.out.1 HG.out).mono ?_; rintro e w11 ⟨rfl, hI, hB, hK⟩; have HI11 := Aside0.mk hI; have HJ11 := Aside0.mk (HJ10.out.keep HI10.out hK HNE.out); have HB11 := Aside0.mk hB; clear hI hB hK HI10 HJ10 HB10)
    | (go_at_call 11; (with_reducible refine (palaverref05_Verify.calls k2 (pubK a0 h) a3 S true r1 w11 HV2.out).mono ?_); rintro e w12 ⟨v1, rfl, ho, hb⟩; have HO12 := Aside0.mk (show Kd.R Kd.string 9 w12 w11.heap.size (fun k => k ≠ g) v1 r1 from Kd.R_mono (Kd.R_bound ho) (fun k hk e => by have := HI11.out.lt; have := hk.2.1; omega)); have HI12 := Aside0.mk (HI11.out.below hb); have HJ12 := Aside0.mk (HJ11.out.below hb); have HB12 := Aside0.mk (below_step HB11.out hb); clear hb ho HI11 HJ11 HB11))
  have hcase : (a4 ≠ a3 ∧ b = true) ∨ (a4 = a3 ∨ (a4 ≠ a3 ∧ b = false)) := by
    by_cases e : a4 = a3
    · exact .inr (.inl e)
    · cases b
      · exact .inr (.inr ⟨e, rfl⟩)
      · exact .inl ⟨e, rfl⟩
  rcases hcase with ⟨hne, rfl⟩ | hcase
  · obtain ⟨k6, hE⟩ := (HEx.out hne rfl).get
    have HE := Aside0.mk hE
    have e1 : ¬ a4.toList = a3.toList := fun e => hne ((Oct.toList_eq _ _).1 e)
    have e2 : (a4.toList = a3.toList) = False := eq_false e1
    have e3 : (a4.toList == a3.toList) = false := beq_eq_false_iff_ne.2 e1
    have e4 : (a4.toList != a3.toList) = true := bne_iff_ne.2 e1
    clear hE hne e1 HEx HOt HJ12
    go_wp2_with (first
      | (go_at_call 18; refine (public_ g a0 h (0 + 1) W w12 HI12.out HB12.out HH.out.1 HG.out).mono ?_; rintro e w13 ⟨rfl, hI, hB, hK⟩; have HI13 := Aside0.mk hI; have HO13 := Aside0.mk (Kd.R_keep HO12.out hK (fun _ hk => hk)); have HB13 := Aside0.mk hB; clear hI hB hK HI12 HB12 HO12)
      | (go_at_call 14; (with_reducible refine (key_Verify.calls k3 (pubK a0 h) a4 S true w13 (Kd.C_below HG.out HB13.out) HV3.out).mono ?_); rintro e w14 ⟨rfl, hb⟩; have HI14 := Aside0.mk (HI13.out.below hb); have HO14 := Aside0.mk (Kd.R_below HO13.out hb); have HB14 := Aside0.mk (below_step HB13.out hb); clear hb HI13 HO13 HB13)
      | (go_at_call 18; refine (public_ g a0 h (0 + 1) W w14 HI14.out HB14.out HH.out.1 HG.out).mono ?_; rintro e w15 ⟨rfl, hI, hB, hK⟩; have HO15 := Aside0.mk (Kd.R_keep HO14.out hK (fun _ hk => hk)); have HB15 := Aside0.mk hB; clear hI hB hK HI14 HO14 HB14)
      | (go_at_call 11; (with_reducible refine (palaverref05_Verify.calls k4 (pubK a0 h) a4 S true r2 w15 HV4.out).mono ?_); rintro e w16 ⟨v2, rfl, ho, hb⟩; have HO1 := Aside0.mk (Kd.R_below HO15.out hb); have HO2 := Aside0.mk ho; have HB16 := Aside0.mk (below_step HB15.out hb); clear hb ho HO15 HB15; obtain ⟨A1, c1, x1⟩ := Kd.R_slice HO1.out; subst x1; obtain ⟨A2, c2, x2⟩ := Kd.R_slice HO2.out; subst x2)
      | (go_at_call 20; (with_reducible refine (palaverref05_Both.calls A1 c1 r1 A2 c2 r2 r w16 (Kd.R_reads' HO1.out).2.2 (Kd.R_reads' HO1.out).2.1 (Kd.R_reads' HO2.out).2.2 (Kd.R_reads' HO2.out).2.1 HBo.out).mono ?_); rintro e w17 ⟨v3, rfl, ho, hb⟩; have HB17 := Aside0.mk (below_step HB16.out hb); have HO3 := Aside0.mk ho; clear hb ho; obtain ⟨A3, c3, x3⟩ := Kd.R_slice HO3.out; subst x3)
      | (go_at_call 21; (with_reducible refine (palaverref05_Excused.calls k6 A3 c3 r S true w17 (Kd.R_reads' HO3.out).2.2 (Kd.R_reads' HO3.out).2.1 HE.out).mono ?_); rintro e w18 ⟨rfl, hb⟩; have HB18 := Aside0.mk (below_step HB17.out hb); clear hb))
    go_ret
    exact ⟨rfl, HB18.out⟩
  · clear HO12 HEx HBo HV4 HV2
    rcases same_or (pubK a0 h) (pubK a1 h) with ⟨hq, e5, e6, e7⟩ | ⟨hpub, e5, e6, e7⟩
    clear hq
    rotate_left
    obtain ⟨k7, hO⟩ := (HOt.out hpub).get
    have HO := Aside0.mk hO
    clear hO hpub
    all_goals
      clear HOt
      rcases same_or a4 a3 with ⟨hq, e2, e3, e4⟩ | ⟨hne, e2, e3, e4⟩
    clear hq
    rotate_left
    obtain rfl : b = false := (hcase.resolve_left hne).2
    clear hne
    rotate_left
    clear hq
    rotate_left
    obtain rfl : b = false := (hcase.resolve_left hne).2
    clear hne
    all_goals
      clear hcase
      go_wp2_with (first
        | (go_at_call 18; (with_reducible refine (public_ g a0 h (0 + 1) W _ HI12.out HB12.out HH.out.1 HG.out).mono ?_); rintro e w13 ⟨rfl, hI, hB, hK⟩; replace HJ12 := Aside0.mk (HJ12.out.keep HI12.out hK HNE.out); replace HI12 := Aside0.mk hI; replace HB12 := Aside0.mk hB; clear hI hB hK)
        | (go_at_call 18; (with_reducible refine (public_ g2 a1 h 0 W _ HJ12.out HB12.out HH.out.2.1 HG.out).mono ?_); rintro e w13 ⟨rfl, hI, hB, hK⟩; replace HI12 := Aside0.mk (HI12.out.keep HJ12.out hK HNE.out.symm); replace HJ12 := Aside0.mk hI; replace HB12 := Aside0.mk hB; clear hI hB hK)
        | (go_at_call 14; (with_reducible refine (key_Verify.calls k3 (pubK a0 h) a4 S false _ (Kd.C_below HG.out HB12.out) HV3.out).mono ?_); rintro e w14 ⟨rfl, hb⟩; replace HI12 := Aside0.mk (HI12.out.below hb); replace HJ12 := Aside0.mk (HJ12.out.below hb); replace HB12 := Aside0.mk (below_step HB12.out hb); clear hb)
        | (go_at_call 14; (with_reducible refine (key_Verify.calls k7 (pubK a1 h) a3 S false _ (Kd.C_below HG.out HB12.out) HO.out).mono ?_); rintro e w14 ⟨rfl, hb⟩; replace HI12 := Aside0.mk (HI12.out.below hb); replace HJ12 := Aside0.mk (HJ12.out.below hb); replace HB12 := Aside0.mk (below_step HB12.out hb); clear hb)
        | (go_at_call 14; (with_reducible refine (key_Verify.calls k1 (pubK a0 h) a3 S true _ (Kd.C_below HG.out HB12.out) HV1.out).mono ?_); rintro e w14 ⟨rfl, hb⟩; replace HB12 := Aside0.mk (below_step HB12.out hb); clear hb))
      go_ret
      exact ⟨rfl, HB12.out⟩
end Go.Proofs.YtnfbagkeenjifaaGreatDoor.KeyO
