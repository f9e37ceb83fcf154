/-
  KeyTurned: a signature of which one byte is turned is no right one for its message, or two unlike texts have one digest.
  Conditions: none of our own.
-/
import Derived.Test.YtnfbagkeenjifaaGreatDoorKeyS
import Derived.Test.YtnfbagkeenjifaaGreatDoorBnd
import Derived.Test.YtnfbagkeenjifaaGreatDoorPPx1
import Derived.Test.YtnfbagkeenjifaaGreatDoorPPx3
namespace Go.Proofs.YtnfbagkeenjifaaGreatDoor.KeyO
open Go.RowKit Go.Proofs.YtnfbagkeenjifaaGreatDoor.PP Go.Proofs.YtnfbagkeenjifaaGreatDoorW.PrintWords Go.Proofs.YtnfbagkeenjifaaGreatDoorW.PrintLast Go.Proofs.YtnfbagkeenjifaaGreatDoorW.PrintMore
set_option linter.unusedVariables false
set_option maxRecDepth 100000 in
set_option maxHeartbeats 6400000 in
theorem turned_rest (a0 : ByteArray) (a1 : Int) (a2 : ByteArray) (a3 a4 : Int) (W : World) (hG : Keys W) (h : 300 < a0.size ∨ 300 < a2.size) :
    Calls Tryz.prog 4 #[.string a0, .int .i64 a1, .string a2, .int .i64 a3, .int .u8 a4] W fun e w' => e = .returned (.bool true) ∧ Below W.heap.size W w' := by
  have HG := Aside0.mk hG
  obtain ⟨b, hb0⟩ : ∃ b, decide ((a0.size : Int) > 300) = b := ⟨_, rfl⟩
  obtain ⟨c, hc0⟩ : ∃ c, decide ((a2.size : Int) > 300) = c := ⟨_, rfl⟩
  have HL := Aside0.mk (show palaverlaw05_long.f a0 = some b by unfold palaverlaw05_long.f; rw [hb0])
  have HM := Aside0.mk (show palaverlaw05_long.f a2 = some c by unfold palaverlaw05_long.f; rw [hc0])
  have hbc : b = true ∨ (b = false ∧ c = true) := by
    cases b
    · right
      refine ⟨rfl, ?_⟩
      have h1 := of_decide_eq_false hb0
      rw [← hc0]
      exact decide_eq_true (by omega)
    · exact .inl rfl
  clear hG h hb0 hc0
  rcases hbc with rfl | ⟨rfl, rfl⟩
  · go_enter Tryz.func4, Tryz.ntmps4
    go_wp2_with (first
      | (go_at_call 9; refine (palaverlaw05_long.calls a0 _ _ HL.out).mono ?_; rintro e w1 ⟨rfl, hd⟩; have HB := Aside0.mk (hd.below); clear hd)
      | (go_at_call 10; refine (awake_ w1 (Kd.C_below HG.out HB.out)).mono ?_; rintro e w2 ⟨rfl, hb⟩; have HB2 := Aside0.mk (below_step HB.out hb); clear hb))
    go_ret
    exact ⟨rfl, HB2.out⟩
  · go_enter Tryz.func4, Tryz.ntmps4
    go_wp2_with (first
      | (go_at_call 9; refine (palaverlaw05_long.calls a0 _ W HL.out).mono ?_; rintro e w1 ⟨rfl, hd⟩; have HB := Aside0.mk (hd.below); clear hd HL)
      | (go_at_call 9; refine (palaverlaw05_long.calls a2 _ w1 HM.out).mono ?_; rintro e w2 ⟨rfl, hd⟩; have HB2 := Aside0.mk (below_step HB.out hd.below); clear hd)
      | (go_at_call 10; refine (awake_ w2 (Kd.C_below HG.out HB2.out)).mono ?_; rintro e w3 ⟨rfl, hb⟩; have HB3 := Aside0.mk (below_step HB2.out hb); clear hb))
    go_ret
    exact ⟨rfl, HB3.out⟩
section
variable {P : Program} {ops : Array Oper} {Q : Exit → Act → World → Prop}
theorem val_ {oi : Oper} {N : Option Tmp} {a : Act} {w : World} {K : Act → World → Prop} (v : Value) (hw : Region.wanted oi (yielded ops a.tmps) = true) (hN : oi.dst = N) (hrun : (execOp a.eval oi).run P w = .ok (.value v) w)
    (h : K (a.put N v) w) : if Region.wanted oi (yielded ops a.tmps) = true then Oper.wp P oi a w K Q else K (a.put N undef) w := by
  rw [if_pos hw]
  subst hN
  unfold Oper.wp
  rw [hrun, Oper.upon_value]
  exact h
end
def T10 : Bool × List (List Nat × List Nat) := (true, [([], []), ([], []), ([0, 1], [0, 1]), ([], []), ([3], [3]), ([4], [4]), ([2, 5], [2, 5]), ([], []), ([], []), ([8], [8]), ([7, 9], [7, 9]), ([6, 10], [6, 10]), ([11, 0, 1, 2, 3, 4, 5, 6, 7, 8, 9, 10, 11], [11])])
def B10 : List Nat := [0, 0, 3, 0, 8, 24, 63, 0, 0, 256, 896, 2047, 4095]
theorem tab10 : rtab .any (opsOf Tryz.f4 10) = T10 := by kernel_rfl
theorem bits10 : waitsOk T10.2 B10 = true := by kernel_rfl
theorem at_ (a : Int) (n : Nat) (h1 : 2 < n) (h2 : n ≤ 100000) : ∃ j : Nat, 2 ≤ j ∧ j < n ∧ wrap64 (2 + wrap64 (Int.tmod (IntKind.u64.wrap a) (IntKind.u64.wrap (wrap64 ((n : Int) - 2))))) = (j : Int) ∧ ¬ IntKind.u64.wrap (wrap64 ((n : Int) - 2)) = 0 := by
  have h0 := u64_nonneg a
  have e1 : wrap64 ((n : Int) - 2) = (n : Int) - 2 := by unfold wrap64; omega
  have e2 : IntKind.u64.wrap ((n : Int) - 2) = (n : Int) - 2 := by
    simp only [IntKind.wrap, IntKind.bits, IntKind.signed]
    simp
    omega
  rw [e1, e2]
  generalize IntKind.u64.wrap a = x at h0 ⊢
  rw [Int.tmod_eq_emod_of_nonneg h0]
  have m0 := Int.emod_nonneg x (show (n : Int) - 2 ≠ 0 by omega)
  have m1 := Int.emod_lt_of_pos x (show (0 : Int) < (n : Int) - 2 by omega)
  refine ⟨(2 + x % ((n : Int) - 2)).toNat, by omega, by omega, ?_, by omega⟩
  generalize x % ((n : Int) - 2) = y at m0 m1 ⊢
  unfold wrap64
  omega
/-- The plain law. -/
theorem turned_law (a0 : ByteArray) (h : Int) (a2 : ByteArray) (b : Int) (j : Nat) (h0 : 0 ≤ h) (h4 : h ≤ 4) (hp : (0 : Int) < two h) (hm : a2.size ≤ 300) (S T : ByteArray) (hS : sigK a0 h 0 a2 = S) (j2 : 2 ≤ j) (j3 : j < S.size)
    (hT : S.extract 0 j ++ strOfNums [b] ++ S.extract (j + 1) S.size = T) :
    ∃ (b : Bool) (r1 r2 r : List ByteArray), Sha.Ev (fun k => key_Verify.f k (pubK a0 h) a2 T) b ∧ Sha.Ev (fun k => palaverref05_Verify.f k (pubK a0 h) a2 S) (true, r1) ∧ Sha.Ev (fun k => palaverref05_Verify.f k (pubK a0 h) a2 T) (b, r2) ∧
      palaverref05_Both.f r1 r2 = some r ∧ (T ≠ S → b = true → Sha.Ev (fun k => palaverref05_Clash.f k r) true) := by
  have hz := sigK_size a0 h 0 (by omega) hp a2
  have eS := parts_sig a0 h 0 h0 (by omega) (by omega) hp a2
  have hv := verify_sig a0 h 0 h0 (by omega) (by omega) hp a2 (by omega)
  rw [hS] at hz eS hv
  have hn := two_le h0 h4
  have tt := Sha.turned_text S b j j2 j3
  rw [hT] at tt
  obtain ⟨us, qs, eT, hlen, hinj⟩ := Sha.turned_parts S T 0 _ _ eS tt.1 tt.2
  have vS := Sha.verify_way (pubK a0 h) a2 S (by omega) (by omega) 0 _ _ eS
  have vT := Sha.verify_way (pubK a0 h) a2 T (by omega) (by omega) 0 us qs eT
  obtain ⟨n1, n2, n3, n4, n5, n6, _⟩ := Oct.Evt.parts5_ok eS
  obtain ⟨m1, m2, m3, m4, m5, m6, _⟩ := Oct.Evt.parts5_ok eT
  generalize valsK a0 0 a2 = vs at *
  generalize pathK a0 h 0 = ps at *
  have e1 := Sha.Ev.inj vS.1 hv
  rw [e1] at vS
  obtain ⟨w1, w2⟩ := Sha.way_ok a2 (by omega) 0 vs ps n3 n5 (by omega) n6
  obtain ⟨w3, w4⟩ := Sha.way_ok a2 (by omega) 0 us qs m3 m5 (by omega) m6
  refine ⟨_, _, _, Sha.way a2 0 vs ps ++ Sha.way a2 0 us qs, vT.1, vS.2, vT.2, ?_, fun hn hb => ?_⟩
  · unfold palaverref05_Both.f
    simp only [List.nil_append, Option.bind_some, List.length_nil]
    rw [if_pos (by omega), if_pos (by omega)]
  · have e2 := (Oct.toList_eq _ _).1 (eq_of_beq e1)
    have e3 := (Oct.toList_eq _ _).1 (eq_of_beq hb)
    rcases Sha.turned_meet a2 0 vs us ps qs n3 n5 m3 m5 n6 m6 hlen (e2.trans e3.symm) with ⟨c1, c2⟩ | c
    · exact absurd (hinj c1 c2).symm hn
    · exact Sha.Meet.clash c w1 w3 (by omega) (by omega)
set_option maxRecDepth 100000 in
set_option maxHeartbeats 6400000 in
theorem hand_KeyTurned (a0 : ByteArray) (a1 : Int) (a2 : ByteArray) (a3 a4 : Int) (W : World) (_w0 : a0.size ≤ 140737488351232) (_w1 : (Lit.int .i64 a1).wf = true) (_w2 : a2.size ≤ 140737488351232) (_w3 : (Lit.int .i64 a3).wf = true) (_w4 : (Lit.int .u8 a4).wf = true) (hG : Keys W) :
    Calls Tryz.prog 4 #[.string a0, .int .i64 a1, .string a2, .int .i64 a3, .int .u8 a4] W fun e w' => e = .returned (.bool true) ∧ Below W.heap.size W w' := by
  by_cases hlong : 300 < a0.size ∨ 300 < a2.size
  · exact turned_rest a0 a1 a2 a3 a4 W hG hlong
  have hs : a0.size ≤ 300 := by omega
  have hm : a2.size ≤ 300 := by omega
  obtain ⟨h, h0, h2, hsm⟩ := small_ a1
  have hn := two_le h0 (show h ≤ 4 by omega)
  have hp2 : (0 : Int) < two h := by have : 0 < two h := Nat.pow_pos (by decide); omega
  have HG := Aside0.mk hG
  have HL := Aside0.mk (show palaverlaw05_long.f a0 = some false by unfold palaverlaw05_long.f; rw [decide_eq_false (by omega)])
  have HM := Aside0.mk (show palaverlaw05_long.f a2 = some false by unfold palaverlaw05_long.f; rw [decide_eq_false (by omega)])
  have HS := Aside0.mk hsm
  have HH := Aside0.mk (And.intro hs (And.intro hm (And.intro h0 (And.intro h2 (And.intro hn hp2)))))
  obtain ⟨S, hS⟩ : ∃ S, sigK a0 h 0 a2 = S := ⟨_, rfl⟩
  have hz := sigK_size a0 h 0 (by omega) hp2 a2
  rw [hS] at hz
  have HSG := Aside0.mk hS
  have HZ := Aside0.mk hz
  obtain ⟨j, j2, j3, hj, hj0⟩ := at_ a3 S.size (by omega) (by omega)
  have HJ := Aside0.mk (And.intro j2 j3)
  obtain ⟨T, hT⟩ : ∃ T, S.extract 0 j ++ strOfNums [a4] ++ S.extract (j + 1) S.size = T := ⟨_, rfl⟩
  obtain ⟨b, r1, r2, r, hV1, hV2, hV3, hBo, hCl⟩ := turned_law a0 h a2 a4 j h0 (by omega) hp2 hm S T hS j2 j3 hT
  obtain ⟨k1, hV1⟩ := hV1.get
  obtain ⟨k2, hV2⟩ := hV2.get
  obtain ⟨k3, hV3⟩ := hV3.get
  have HT := Aside0.mk hT
  have HV1 := Aside0.mk hV1
  have HV2 := Aside0.mk hV2
  have HV3 := Aside0.mk hV3
  have HBo := Aside0.mk hBo
  have HCl := Aside0.mk hCl
  have p3 : (IntKind.u64.wrap (wrap64 ((S.size : Int) - 2)) = 0) = False := eq_false hj0
  have p4 : ((j : Int) ≤ (S.size : Int)) = True := eq_true (by omega)
  have p5 : (j ≤ S.size) = True := eq_true (by omega)
  have p6 : wrap64 ((j : Int) + 1) = (j : Int) + 1 := by unfold wrap64; omega
  have p7 : ((j : Int) + 1 ≤ (S.size : Int)) = True := eq_true (by omega)
  have p8 : (j + 1 ≤ S.size) = True := eq_true (by omega)
  have p9 : (0 ≤ (j : Int) + 1) = True := eq_true (by omega)
  have z1 : (S.extract 0 j).size = j := by simp; omega
  have z2 : (S.extract (j + 1) S.size).size = S.size - (j + 1) := by simp
  have z3 : (strOfNums [a4]).size = 1 := by rw [strOfNums_size]; rfl
  have p1 : ((S.size : Int) < 3) = False := eq_false (by omega)
  have p2 : (S.size < 3) = False := eq_false (by omega)
  clear hG hsm hs hm h0 h2 hlong hS hz hn hp2 hj0 j2 j3 hT hV1 hV2 hV3 hBo hCl
  go_enter Tryz.func4, Tryz.ntmps4
  go_wp2_with (first
    | (go_at_call 9; refine (palaverlaw05_long.calls a0 _ W HL.out).mono ?_; rintro e w1 ⟨rfl, hd⟩; have HB := Aside0.mk (hd.below); clear hd HL)
    | (go_at_call 9; refine (palaverlaw05_long.calls a2 _ w1 HM.out).mono ?_; rintro e w2 ⟨rfl, hd⟩; have HB2 := Aside0.mk (below_step HB.out hd.below); clear hd HM)
    | (go_at_call 10; refine (awake_ w2 (Kd.C_below HG.out HB2.out)).mono ?_; rintro e w3 ⟨rfl, hb⟩; have HB3 := Aside0.mk (below_step HB2.out hb); clear hb)
    | (go_at_call 16; refine (palaverlaw05_small.calls a1 h w3 HS.out).mono ?_; rintro e w4 ⟨rfl, hd⟩; have HB4 := Aside0.mk (below_step HB3.out hd.below); clear hd)
    | (go_at_call 15; refine (new_ok (lv pub) a0 h 0 W w4 HB4.out HH.out.2.2.1 (by have := HH.out; omega) (by omega) (by have := HH.out; omega)).mono ?_; rintro e w5 ⟨g, rfl, hI, hB, _, _⟩; have HI5 := Aside0.mk hI; have HB5 := Aside0.mk hB; clear hI hB)
    | (go_at_call 17; refine (sign_ok g a0 h 0 a2 W w5 HI5.out HB5.out HH.out.1 (by have := HH.out; omega) HG.out (by omega) HH.out.2.2.2.2.2).mono ?_; rintro e w6 ⟨he, hI, hB, _⟩; rw [HSG.out] at he; subst he; have HI6 := Aside0.mk hI; have HB6 := Aside0.mk hB; clear hI hB))
  have HI7 := Aside0.mk HI6.out.drew
  have HB7 := Aside0.mk HB6.out.drew
  refine start_ (n := 13) (S := fun _ => True) (ds := []) #[false, false, false, false, false, false, false, false, false, false, false, false, false] (by kernel_rfl) rfl rfl trivial (fun hHeld => ?_); refine with_tabW tab10 bits10 (fun HT_ HW_ => ?_)
  generalize w6.drew = w7 at HI7 HB7 hHeld ⊢
  refine runs_ [(0, some 59), (1, some 60), (2, some 61), (3, some 62), (7, some 66), (8, some 67), (9, some 68), (10, some 69)] ?_
  iterate 8 (refine pL_ ?_)
  refine runsE_ ?_
  obtain ⟨ym, hym⟩ : ∃ y_ : List Int, y_ = [a4] := ⟨_, rfl⟩
  have Nym := Aside0.mk hym
  rw [← hym] at z3
  clear hym
  refine one_ (i := 4) (N := some 63) #[true, true, true, true, true, false, false, true, true, true, true, false, false] rfl rfl (one_of HT_.out (by kernel_rfl)) (by decide) (fun K hK => ?_)
  refine Kd.R_lit_step (Kd.int .u8) _ 5 ?hg (N := 63) ?hd (xs := ([a4] : List Int)) (inner := [.int .u8 a4]) (ok := fun _ => True) (okp := fun _ => True) ?hr ?hp (fun _ hk => hk) trivial (Below.refl _ _) (Nat.le_refl _) (by simp) ?_; (case hd => rfl); (case hg => rfl); (case hr => first | (go_simp; done) | (go_simp; rfl)); (case hp => exact (Reps.one (show Kd.M (Kd.int .u8) _ _ _ a4 [.int .u8 a4] from rfl) (Reps.none _ _)))
  intro v8 w8 ho hb hg_ hnew_
  clear hg_ hnew_
  (first | rw [← Nym.out] at ho | (simp only [Int.reduceToNat] at ho; rw [← Nym.out] at ho))
  have HI8 := Aside0.mk (HI7.out.below hb); have HB8 := Aside0.mk (below_step HB7.out hb)
  have hcv := own_string (P := Tryz.prog) Tryz.underlying39 Tryz.underlying5 Tryz.underlying9 (Kd.own_of_R ho)
  clear HI7 HB7 hb ho
  refine hK.out _ _ trivial (fun hHeld => ?_)
  clear hK K
  refine norm_ (a' := ?_) ?_ ?_
  rotate_left
  · show Act.put _ (some 63) _ = _
    simp only [pr_]
    rfl
  refine one_ (i := 5) (N := some 64) #[true, true, true, true, true, true, false, true, true, true, true, false, false] rfl rfl (one_of HT_.out (by kernel_rfl)) (by decide) (fun K hK => ?_)
  refine val_ (.string (strOfNums ym)) rfl rfl ?_ ?_
  · go_simp
    done
  refine hK.out _ _ trivial (fun hHeld => ?_)
  clear hK K hcv
  refine norm_ (a' := ?_) ?_ ?_
  rotate_left
  · show Act.put _ (some 64) _ = _
    simp only [pr_]
    rfl
  have y1 : (S.extract 0 j ++ strOfNums ym).size = j + 1 := by rw [ByteArray.size_append, z1, z3]
  have y2 : (9223372036854775807 < j + 1) = False := eq_false (by have := HZ.out; have := HH.out; have := HJ.out; omega)
  have y3 : (9223372036854775807 < S.size) = False := eq_false (by have := HZ.out; have := HH.out; have := HJ.out; omega)
  refine runs_ [(6, some 65), (11, some 70), (12, some 15)] ?_
  iterate 3 (refine pL_ ?_)
  refine runsE_ ?_
  refine done_ (done_of HT_.out (by kernel_rfl)) ?_
  rw [Nym.out, HT.out]
  clear y1 y2 y3 z1 z2 z3 p3 p4 p5 p6 p7 p8 p9 hj HT_ HW_ Nym
  by_cases hts : T = S
  · subst hts
    go_wp2
    go_ret
    exact ⟨rfl, HB8.out⟩
  have e1 : ¬ T.toList = S.toList := fun e => hts ((Oct.toList_eq _ _).1 e)
  have e2 : (T.toList = S.toList) = False := eq_false e1
  have e3 : (T.toList == S.toList) = false := beq_eq_false_iff_ne.2 e1
  clear e1
  cases b with
  | false =>
    clear hts HCl HBo HV2 HV3
    go_wp2_with (first
      | (go_at_call 18; refine (public_ g a0 h (0 + 1) W w8 HI8.out HB8.out HH.out.1 HG.out).mono ?_; rintro e w9 ⟨rfl, hI, hB, _⟩; have HI9 := Aside0.mk hI; have HB9 := Aside0.mk hB; clear hI hB)
      | (go_at_call 14; (with_reducible refine (key_Verify.calls k1 (pubK a0 h) a2 T false w9 (Kd.C_below HG.out HB9.out) HV1.out).mono ?_); rintro e w10 ⟨rfl, hb⟩; have HB10 := Aside0.mk (below_step HB9.out hb); clear hb))
    go_ret
    exact ⟨rfl, HB10.out⟩
  | true =>
    obtain ⟨k4, hC⟩ := (HCl.out hts rfl).get
    have HC := Aside0.mk hC
    clear hC hts HCl
    go_wp2_with (first
      | (go_at_call 18; refine (public_ g a0 h (0 + 1) W w8 HI8.out HB8.out HH.out.1 HG.out).mono ?_; rintro e w9 ⟨rfl, hI, hB, _⟩; have HI9 := Aside0.mk hI; have HB9 := Aside0.mk hB; clear hI hB)
      | (go_at_call 14; (with_reducible refine (key_Verify.calls k1 (pubK a0 h) a2 T true w9 (Kd.C_below HG.out HB9.out) HV1.out).mono ?_); rintro e w10 ⟨rfl, hb⟩; have HI10 := Aside0.mk (HI9.out.below hb); have HB10 := Aside0.mk (below_step HB9.out hb); clear hb)
      | (go_at_call 18; refine (public_ g a0 h (0 + 1) W w10 HI10.out HB10.out HH.out.1 HG.out).mono ?_; rintro e w11 ⟨rfl, hI, hB, _⟩; have HI11 := Aside0.mk hI; have HB11 := Aside0.mk hB; clear hI hB)
      | (go_at_call 11; (with_reducible refine (palaverref05_Verify.calls k2 (pubK a0 h) a2 S true r1 w11 HV2.out).mono ?_); rintro e w12 ⟨v1, rfl, ho, hb⟩; have HI12 := Aside0.mk (HI11.out.below hb); have HB12 := Aside0.mk (below_step HB11.out hb); have HO12 := Aside0.mk (show Kd.R Kd.string 9 w12 w11.heap.size (fun k => k ≠ g) v1 r1 from Kd.R_mono (Kd.R_bound ho) (fun k hk e => by have := HI11.out.lt; have := hk.2.1; omega)); clear hb ho)
      | (go_at_call 18; refine (public_ g a0 h (0 + 1) W w12 HI12.out HB12.out HH.out.1 HG.out).mono ?_; rintro e w13 ⟨rfl, hI, hB, hK⟩; have HI13 := Aside0.mk hI; have HB13 := Aside0.mk hB; have HO13 := Aside0.mk (Kd.R_keep HO12.out hK (fun _ hk => hk)); clear hI hB hK HO12)
      | (go_at_call 11; (with_reducible refine (palaverref05_Verify.calls k3 (pubK a0 h) a2 T true r2 w13 HV3.out).mono ?_); rintro e w14 ⟨v2, rfl, ho, hb⟩; have HI14 := Aside0.mk (HI13.out.below hb); have HB14 := Aside0.mk (below_step HB13.out hb); have HO1 := Aside0.mk (Kd.R_below HO13.out hb); have HO2 := Aside0.mk ho; clear hb ho HO13; obtain ⟨A1, c1, x1⟩ := Kd.R_slice HO1.out; subst x1; obtain ⟨A2, c2, x2⟩ := Kd.R_slice HO2.out; subst x2)
      | (go_at_call 20; (with_reducible refine (palaverref05_Both.calls A1 c1 r1 A2 c2 r2 r w14 (Kd.R_reads' HO1.out).2.2 (Kd.R_reads' HO1.out).2.1 (Kd.R_reads' HO2.out).2.2 (Kd.R_reads' HO2.out).2.1 HBo.out).mono ?_); rintro e w15 ⟨v3, rfl, ho, hb⟩; have HB15 := Aside0.mk (below_step HB14.out hb); have HO3 := Aside0.mk ho; clear hb ho; obtain ⟨A3, c3, x3⟩ := Kd.R_slice HO3.out; subst x3)
      | (go_at_call 19; (with_reducible refine (palaverref05_Clash.calls k4 A3 c3 r true w15 (Kd.R_reads' HO3.out).2.2 (Kd.R_reads' HO3.out).2.1 HC.out).mono ?_); rintro e w16 ⟨rfl, hb⟩; have HB16 := Aside0.mk (below_step HB15.out hb); clear hb))
    go_ret
    exact ⟨rfl, HB16.out⟩
end Go.Proofs.YtnfbagkeenjifaaGreatDoor.KeyO
