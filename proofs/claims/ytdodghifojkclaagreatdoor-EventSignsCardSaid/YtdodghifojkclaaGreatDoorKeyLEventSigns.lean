/-
  EventSigns: any event signed by any key bears its public and its signature; or it isn't signed, and then no leaf is used.
  Conditions: none of our own.
-/
import Derived.Test.YtdodghifojkclaaGreatDoorKeyE
import Derived.Test.YtdodghifojkclaaGreatDoorKeyS
import Derived.Test.YtdodghifojkclaaGreatDoorEvt
import Derived.Test.YtdodghifojkclaaGreatDoorPPx3
namespace Go.Proofs.YtdodghifojkclaaGreatDoor.KeyO
open Go.RowKit Go.Proofs.YtdodghifojkclaaGreatDoor.PP Go.Proofs.YtdodghifojkclaaGreatDoorW.PrintWords Go.Proofs.YtdodghifojkclaaGreatDoorW.PrintLast Go.Proofs.YtdodghifojkclaaGreatDoorW.PrintMore Go.Proofs.YtdodghifojkclaaGreatDoor.Oct.Evt
open Go.Proofs.YtdodghifojkclaaGreatDoor.Sha (ifs ifn)
set_option linter.unusedVariables false
set_option linter.unusedSimpArgs false
theorem EL.one {L : ByteArray → Int → List ByteArray} {W W1 : World} {g gb : Nat} {s : ByteArray} {h u : Int} {cs : Array Value} (hI : IsKey L W W1 g s h u) (hB : Below W.heap.size W W1) (hx : W1.heap[gb]? = some (.cells cs 24 (0, 0))) (hg : W.heap.size ≤ gb) : EL L W W W1 g s h u [(gb, cs)] :=
  ⟨hI, hB, KeepBut.of_below hB g none, fun p hp => by rw [List.mem_singleton.1 hp]; exact ⟨hg, hx⟩, List.pairwise_singleton _ _, Nat.le_refl _⟩
/-- What is not great has few parents. -/
theorem great_len {kind : Int} {a : ByteArray} {l : List ByteArray} {b s : ByteArray} (h : Sha.Ev (fun k => Jf.f k kind a l b s) false) : l.length ≤ 20 := by
  by_cases c : (l.length : Int) > 20
  · suffices z : Sha.Ev (fun k => Jf.f k kind a l b s) true by
      obtain ⟨K1, h1⟩ := h
      obtain ⟨K2, h2⟩ := z
      exact absurd ((h1 (max K1 K2) (Nat.le_max_left _ _)).symm.trans (h2 (max K1 K2) (Nat.le_max_right _ _))) (by simp)
    have hy := great_yes kind a l b s
    have hz : Sha.Ev (fun k => Jf.j0 k (decide ((l.length : Int) > 20)) kind a l b s) true := by rw [decide_eq_true c]; exact hy
    unfold Jf.f
    by_cases c1 : (a.size : Int) > 300
    · exact ifs c1 hy
    · by_cases c2 : (b.size : Int) > 500
      · exact ifn c1 (ifs c2 hy)
      · by_cases c3 : (s.size : Int) > 3000
        · by_cases c4 : (s.size : Int) ≤ 65535
          · exact ifn c1 (ifn c2 (ifs c3 (ifs c4 hy)))
          · exact ifn c1 (ifn c2 (ifs c3 (ifn c4 hz)))
        · exact ifn c1 (ifn c2 (ifn c3 hz))
  · omega
theorem add0_ (d : Addr) : d.add 0 = d := by
  unfold Addr.add
  split <;> simp_all
def T24 : Bool × List (List Nat × List Nat) := (true, [([], []), ([0], [0]), ([1], [1]), ([2], [2]), ([3], [3]), ([4, 3], [3, 4]), ([5, 3], [3, 5]), ([6, 3], [3, 6]), ([3], [3]), ([8, 3], [3, 8]), ([9, 3], [3, 9]), ([7, 10, 3], [3, 7, 10]), ([3, 11], [3, 11]), ([12, 3, 0, 1, 2, 3, 4, 5, 6, 7, 8, 9, 10, 11, 12], [12])])
def B24 : List Nat := [0, 1, 3, 7, 15, 31, 63, 127, 15, 271, 783, 2047, 4095, 8191]
theorem tab24 : rtab .any (opsOf Tryz.f4 24) = T24 := by kernel_rfl
theorem bits24 : waitsOk T24.2 B24 = true := by kernel_rfl
section
variable {P : Program} {md : Region.Mode} {ops : Array Oper} {Q : Exit → Act → World → Prop} {S : World → Prop} {ds : List Nat}
/-- An operation that is not wanted. -/
theorem uL_ {i : Nat} {N : Option Tmp} {L : List (Nat × Option Tmp)} {oi : Oper} {fuel : Nat} {l : Array Bool} {a : Act} {w : World} {a' : Act} (h : wpL L P md ops Q S ds fuel (l.setIfInBounds i true) a' w)
    (hi : ops[i]? = some oi := by exact rfl) (hN : oi.dst = N := by exact rfl) (hc : anyB md ops l (l.setIfInBounds i true) i = true := by exact any_of HT_.out (by kernel_rfl))
    (hy : Region.wanted oi (yielded ops a.tmps) = false := by rfl) (ha : a.put N undef = a' := by simp only [pr_]; rfl)
    (hQ : ∀ c a w, Q (.panic c) (a.put oi.dst undef) w → Q (.panic c) a w := by exact fun _ _ _ h => h) : wpL ((i, N) :: L) P md ops Q S ds (fuel + 1) l a w := pureL_ hi hN hc (.inr ⟨hy, rfl⟩) ha h hQ
end
theorem right_sig {kind : Int} {a : ByteArray} {ps : List ByteArray} {b s : ByteArray} (h : rightB kind a ps b ⟨#[]⟩ = true) (hs : s.size ≤ 65535) : rightB kind a ps b s = true := by
  unfold rightB tailB at h ⊢
  simp only [Bool.and_eq_true] at h ⊢
  exact ⟨h.1, ⟨h.2.1, decide_eq_true hs⟩⟩
set_option maxRecDepth 100000 in
set_option maxHeartbeats 6400000 in
theorem signs_rest (kind : Int) (a : ByteArray) (A : Option Addr) (c : Nat) (ps : List ByteArray) (b s sd : ByteArray) (sp : Bool) (W : World) (hr : Kd.C Kd.string W A ps.length ps) (hc : ps.length ≤ c) (hG : Keys W) (k0 : Nat) (gt : Bool) (hGr : Jf.f k0 kind a ps b s = some gt) (h : gt = true ∨ (gt = false ∧ 300 < sd.size)) :
    Calls Tryz.prog 4 #[.agg #[.int .i64 kind, .string a, .slice A ps.length c, .string b, .string s], .string sd, .bool sp] W fun e w' => e = .returned (.bool true) ∧ Below W.heap.size W w' := by
  obtain ⟨ka, hA⟩ := awake_ev.get
  have HA := Aside0.mk hA
  have HG := Aside0.mk hG
  have HR := Aside0.mk hr
  have HL := Aside0.mk hc
  have HGr := Aside0.mk hGr
  clear hA hG hr hc hGr
  rcases h with rfl | ⟨rfl, h⟩
  rotate_left
  have p1 : ((sd.size : Int) > 300) = True := eq_true (by omega)
  have p2 : (300 < sd.size) = True := eq_true h
  have p3 : (300 < (sd.size : Int)) = True := eq_true (by omega)
  clear h
  all_goals
    go_enter Tryz.func4, Tryz.ntmps4
    go_wp2_with (first
      | ((with_reducible refine gate_dst (N := 3) rfl ?_); refine box_event ?hg (N := 3) ?hd (cs := #[.int .i64 kind, .string a, .slice A ps.length c, .string b, .string s]) (t := 24) ?hr ?_; (case hd => rfl); (case hg => rfl); (case hr => exact gr_); intro gb hg w1 hbox hb; have HB := Aside0.mk hb; have GB := Aside0.mk hg; have BX := Aside0.mk hbox; clear hg hbox hb; obtain ⟨hx0, hx1, hx2, hx3, hx4⟩ := c5_ BX.out)
      | ((with_reducible refine gate_callee (f := 5) rfl ?_); refine gL_ 15 Tryz.func5 #[.agg #[.int .i64 kind, .string a, .slice A ps.length c, .string b, .string s]] ?_; (with_reducible refine (Jf.calls k0 kind a A c ps b s _ _ ?s1 HL.out HGr.out).mono ?_); (case s1 => exact Kd.C_below HR.out HB.out); rintro e w2 ⟨rfl, hb⟩; refine ⟨_, rfl, ?_⟩; clear hx0 hx1 hx2 hx3 hx4; replace BX := Aside0.mk (blk_below BX.out hb); replace HB := Aside0.mk (below_step HB.out hb); clear hb; obtain ⟨hx0, hx1, hx2, hx3, hx4⟩ := c5_ BX.out)
      | (go_at_call 6; (with_reducible refine (J5.calls ka true _ (Kd.C_below HG.out HB.out) HA.out).mono ?_); rintro e w3 ⟨rfl, hb⟩; clear hx0 hx1 hx2 hx3 hx4; replace BX := Aside0.mk (blk_below BX.out hb); replace HB := Aside0.mk (below_step HB.out hb); clear hb; obtain ⟨hx0, hx1, hx2, hx3, hx4⟩ := c5_ BX.out))
    go_ret
    exact ⟨rfl, HB.out⟩
set_option maxRecDepth 100000 in
set_option maxHeartbeats 6400000 in
theorem signs_form (kind : Int) (a : ByteArray) (A : Option Addr) (c : Nat) (ps : List ByteArray) (b s sd : ByteArray) (sp : Bool) (W : World) (hr : Kd.C Kd.string W A ps.length ps) (hc : ps.length ≤ c) (hG : Keys W) (hs : sd.size ≤ 300) (hE : Sha.Ev (fun k => Jf.f k kind a ps b s) false) (hRt : rightB kind (pubK sd 1) ps b ⟨#[]⟩ = false) :
    Calls Tryz.prog 4 #[.agg #[.int .i64 kind, .string a, .slice A ps.length c, .string b, .string s], .string sd, .bool sp] W fun e w' => e = .returned (.bool true) ∧ Below W.heap.size W w' := by
  obtain ⟨ka, hA⟩ := awake_ev.get
  have HA := Aside0.mk hA
  have HG := Aside0.mk hG
  have HR := Aside0.mk hr
  have HL := Aside0.mk hc
  obtain ⟨P, hP⟩ : ∃ P, pubK sd 1 = P := ⟨_, rfl⟩
  rw [hP] at hRt
  obtain ⟨kp, hPb⟩ := (rpublic_ sd hs 1 (by decide) (by decide)).get
  rw [hP] at hPb
  have hn := great_len hE
  obtain ⟨k0, hGr⟩ := hE.get
  obtain ⟨kr, hRr⟩ := (rright_ev kind P ps b ⟨#[]⟩ hr.2.1).get
  rw [hRt] at hRr
  have HGr := Aside0.mk hGr
  have HP := Aside0.mk hP
  have HPb := Aside0.mk hPb
  have HRr := Aside0.mk hRr
  have HS := Aside0.mk hs
  have HN := Aside0.mk hn
  have p1 : ((sd.size : Int) > 300) = False := eq_false (by omega)
  have p2 : (300 < sd.size) = False := eq_false (by omega)
  have p3 : (300 < (sd.size : Int)) = False := eq_false (by omega)
  have HRt := Aside0.mk (show rightB kind (pubK sd 1) ps b ⟨#[]⟩ = false from by rw [hP]; exact hRt)
  obtain ⟨km, hSm⟩ := same_none.get
  have HSm := Aside0.mk hSm
  clear hSm hA hG hr hc hP hPb hn hGr hRr hs hE hRt
  cases sp
  rotate_left
  go_enter Tryz.func4, Tryz.ntmps4
  go_wp2_with (first
    | ((with_reducible refine gate_dst (N := 3) rfl ?_); refine box_event ?hg (N := 3) ?hd (cs := #[.int .i64 kind, .string a, .slice A ps.length c, .string b, .string s]) (t := 24) ?hr ?_; (case hd => rfl); (case hg => rfl); (case hr => exact gr_); intro gb hg w1 hbox hb; have HB := Aside0.mk hb; have GB := Aside0.mk hg; have BX := Aside0.mk hbox; clear hg hbox hb; obtain ⟨hx0, hx1, hx2, hx3, hx4⟩ := c5_ BX.out)
    | ((with_reducible refine gate_callee (f := 5) rfl ?_); refine gL_ 15 Tryz.func5 #[.agg #[.int .i64 kind, .string a, .slice A ps.length c, .string b, .string s]] ?_; (with_reducible refine (Jf.calls k0 kind a A c ps b s false _ ?s1 HL.out HGr.out).mono ?_); (case s1 => exact Kd.C_below HR.out HB.out); rintro e w2 ⟨rfl, hb⟩; refine ⟨_, rfl, ?_⟩; clear hx0 hx1 hx2 hx3 hx4; replace BX := Aside0.mk (blk_below BX.out hb); replace HB := Aside0.mk (below_step HB.out hb); clear hb; obtain ⟨hx0, hx1, hx2, hx3, hx4⟩ := c5_ BX.out)
    | (go_at_call 6; (with_reducible refine (J5.calls ka true _ (Kd.C_below HG.out HB.out) HA.out).mono ?_); rintro e w3 ⟨rfl, hb⟩; clear hx0 hx1 hx2 hx3 hx4; replace BX := Aside0.mk (blk_below BX.out hb); replace HB := Aside0.mk (below_step HB.out hb); clear hb; obtain ⟨hx0, hx1, hx2, hx3, hx4⟩ := c5_ BX.out)
    | (go_at_call 7; refine (new_ok (lv pub) sd 1 2 W _ HB.out (by decide) (by decide) (by decide) (by decide)).mono ?_; rintro e w4 ⟨g, rfl, hI, hB, hb, _⟩; clear hx0 hx1 hx2 hx3 hx4; have E := Aside0.mk (EL.one hI hB (blk_below BX.out hb) (Nat.le_of_eq GB.out.symm)); clear hI hB hb; clear BX HB; obtain ⟨hx0, hx1, hx2, hx3, hx4⟩ := c5_ E.out.c1)
    | ((with_reducible refine gate_dst (N := 32) rfl ?_); refine Kd.R_lit Kd.string _ 9 ?hg (N := 32) ?hd (xs := ([] : List ByteArray)) (inner := []) (ok := fun _ => True) (okp := fun _ => True) ?hr ?hp (fun _ hk => hk) trivial (Below.refl _ _) (Nat.le_refl _) (by simp) ?_; (case hd => rfl); (case hg => rfl); (case hr => exact gr_); (case hp => exact Reps.none _ _); intro v5 w5 ho hb hg_ hnew_; clear hg_ hnew_; have HO := Aside0.mk ho; have HB5 := Aside0.mk hb; clear hx0 hx1 hx2 hx3 hx4; (obtain ⟨hx0, hx1, hx2, hx3, hx4⟩ := c5_ (blk_below E.out.c1 hb)); clear ho hb)
    | ((with_reducible refine gate_builtin (b := .append) (xs := #[.tmp 32, .tmp 34]) rfl ?_); at_builtin; refine Kd.R_append_rows Kd.string (w0 := w4) w4.heap.size rfl (.tmp 32) (.tmp 34) 22 9 (.string ⟨#[]⟩) 16 rfl Tryz.underlying22 info9 rfl (by decide) (by omega) v5 [] ps A ps.length c (fun _ => True) (fun _ => False) rfl rfl ?aO ?aR (fun _ _ h => h) (fun _ h => h.elim) ?aF ?aB ?aS ?aL ?_; (case aO => exact HO.out); (case aR => exact Kd.C_below HR.out (below_step E.out.B HB5.out)); (case aF => exact fun _ _ => trivial); (case aB => exact HB5.out); (case aS => exact HB5.out.size); (case aL => have := HN.out; simp only [List.length_nil]; omega); intro v6 w6 ho hb hg hat; clear hg hat; clear hx0 hx1 hx2 hx3 hx4; have HGL := Aside0.mk E.out.I.lt; replace E := Aside0.mk (E.out.below hb); have HW := Aside0.mk (show Kd.R Kd.string 9 w6 w4.heap.size (fun _ => True) v6 ps from ho); obtain ⟨Aw, cw, ew⟩ := Kd.R_slice HW.out; subst ew; clear ho hb HO HB5; obtain ⟨hx0, hx1, hx2, hx3, hx4⟩ := c5_ E.out.c1)
    | ((with_reducible refine gate_callee (f := 8) rfl ?_); refine gL_ 39 Tryz.func8 #[.agg #[.int .i64 kind, .string a, .slice A ps.length c, .string b, .string s], .pointer (some ⟨g, 0, none⟩)] ?_; (with_reducible refine (esign_form g sd 1 2 kind a A c ps b s W w6 E.out.I E.out.B HS.out HG.out HR.out HL.out HRt.out).mono ?_); rintro e w7 ⟨rfl, hI, hB, hK⟩; refine ⟨_, rfl, ?_⟩; clear hx0 hx1 hx2 hx3 hx4; replace E := Aside0.mk (E.out.step hI hB hK); clear hI hB hK; obtain ⟨hx0, hx1, hx2, hx3, hx4⟩ := c5_ E.out.c1)
    | ((with_reducible refine gate_dst (N := 10) rfl ?_); refine box_event ?hg (N := 10) ?hd (cs := #[.int .i64 0, .string (⟨#[]⟩ : ByteArray), .slice none 0 0, .string (⟨#[]⟩ : ByteArray), .string (⟨#[]⟩ : ByteArray)]) (t := 24) ?hr ?_; (case hd => rfl); (case hg => rfl); (case hr => exact gr_); intro gg hg w8 hbox hb; clear hx0 hx1 hx2 hx3 hx4; replace E := Aside0.mk (E.out.new hb hbox hg); clear hg hbox hb; obtain ⟨hy0, hy1, hy2, hy3, hy4⟩ := c5_ E.out.c1; obtain ⟨fy0, fy1, fy2, fy3, fy4⟩ := f5_ E.out.c1; obtain ⟨hx0, hx1, hx2, hx3, hx4⟩ := c5_ E.out.c2)
    | ((with_reducible refine gate_store (t := 24) (p := 10) rfl ?_); refine store_event (t := 24) (p := 10) (v := ?vo10) (w1 := w8.setCells gg 0 [.int .i64 0, .string (⟨#[]⟩ : ByteArray), .slice none 0 0, .string (⟨#[]⟩ : ByteArray), .string (⟨#[]⟩ : ByteArray)]) ?hg ?ho ?hn ?hr ?_; (case ho => rfl); (case hg => rfl); (case hn => rfl); (case hr => exact ev_store 0 (⟨#[]⟩ : ByteArray) none 0 0 (⟨#[]⟩ : ByteArray) (⟨#[]⟩ : ByteArray) rfl rfl rfl (by kernel_rfl) E.out.c1 rfl); intro w9 hw; clear hx0 hx1 hx2 hx3 hx4 hy0 hy1 hy2 hy3 hy4 fy0 fy1 fy2 fy3 fy4; replace E := Aside0.mk (show EL _ _ _ w9 _ _ _ _ ((gg, #[.int .i64 0, .string (⟨#[]⟩ : ByteArray), .slice none 0 0, .string (⟨#[]⟩ : ByteArray), .string (⟨#[]⟩ : ByteArray)]) :: _) from by rw [hw]; exact E.out.put _ rfl); clear hw; obtain ⟨hy0, hy1, hy2, hy3, hy4⟩ := c5_ E.out.c1; obtain ⟨fy0, fy1, fy2, fy3, fy4⟩ := f5_ E.out.c1; obtain ⟨hx0, hx1, hx2, hx3, hx4⟩ := c5_ E.out.c2)
    | ((with_reducible refine gate_dst (N := 12) rfl ?_); refine box_event ?hg (N := 12) ?hd (cs := #[.int .i64 0, .string (⟨#[]⟩ : ByteArray), .slice none 0 0, .string (⟨#[]⟩ : ByteArray), .string (⟨#[]⟩ : ByteArray)]) (t := 24) ?hr ?_; (case hd => rfl); (case hg => rfl); (case hr => exact gr_); intro gw hg w10 hbox hb; clear hx0 hx1 hx2 hx3 hx4 hy0 hy1 hy2 hy3 hy4 fy0 fy1 fy2 fy3 fy4; replace E := Aside0.mk (E.out.new hb hbox hg); clear hg hbox hb; obtain ⟨hz0, hz1, hz2, hz3, hz4⟩ := c5_ E.out.c1; obtain ⟨fz0, fz1, fz2, fz3, fz4⟩ := f5_ E.out.c1; obtain ⟨hy0, hy1, hy2, hy3, hy4⟩ := c5_ E.out.c2; obtain ⟨fy0, fy1, fy2, fy3, fy4⟩ := f5_ E.out.c2; obtain ⟨hx0, hx1, hx2, hx3, hx4⟩ := c5_ E.out.c3)
    | ((with_reducible refine gate_store (t := 24) (p := 12) rfl ?_); refine store_event (t := 24) (p := 12) (v := ?vo12) (w1 := w10.setCells gw 0 [.int .i64 kind, .string a, .slice A ps.length c, .string b, .string s]) ?hg ?ho ?hn ?hr ?_; (case ho => rfl); (case hg => rfl); (case hn => rfl); (case hr => exact ev_store kind a A ps.length c b s rfl rfl rfl (by kernel_rfl) E.out.c1 rfl); intro w11 hw; clear hx0 hx1 hx2 hx3 hx4 hy0 hy1 hy2 hy3 hy4 fy0 fy1 fy2 fy3 fy4 hz0 hz1 hz2 hz3 hz4 fz0 fz1 fz2 fz3 fz4; replace E := Aside0.mk (show EL _ _ _ w11 _ _ _ _ ((gw, #[.int .i64 kind, .string a, .slice A ps.length c, .string b, .string s]) :: _) from by rw [hw]; exact E.out.put _ rfl); clear hw; obtain ⟨hz0, hz1, hz2, hz3, hz4⟩ := c5_ E.out.c1; obtain ⟨fz0, fz1, fz2, fz3, fz4⟩ := f5_ E.out.c1; obtain ⟨hy0, hy1, hy2, hy3, hy4⟩ := c5_ E.out.c2; obtain ⟨fy0, fy1, fy2, fy3, fy4⟩ := f5_ E.out.c2; obtain ⟨hx0, hx1, hx2, hx3, hx4⟩ := c5_ E.out.c3)
    | (go_at_call 15; (with_reducible refine (Uk.calls kp sd 1 P _ HPb.out).mono ?_); rintro e w12 ⟨rfl, hb⟩; clear hx0 hx1 hx2 hx3 hx4 hy0 hy1 hy2 hy3 hy4 fy0 fy1 fy2 fy3 fy4 hz0 hz1 hz2 hz3 hz4 fz0 fz1 fz2 fz3 fz4; replace E := Aside0.mk (E.out.below hb); clear hb; obtain ⟨hz0, hz1, hz2, hz3, hz4⟩ := c5_ E.out.c1; obtain ⟨fz0, fz1, fz2, fz3, fz4⟩ := f5_ E.out.c1; obtain ⟨hy0, hy1, hy2, hy3, hy4⟩ := c5_ E.out.c2; obtain ⟨fy0, fy1, fy2, fy3, fy4⟩ := f5_ E.out.c2; obtain ⟨hx0, hx1, hx2, hx3, hx4⟩ := c5_ E.out.c3)
    | ((with_reducible refine gate_callee (f := 9) rfl ?_); refine gL_ 48 Tryz.func9 #[.agg #[.int .i64 kind, .string P, .slice A ps.length c, .string b, .string (⟨#[]⟩ : ByteArray)]] ?_; (with_reducible refine (Jd.calls kr kind P A c ps b (⟨#[]⟩ : ByteArray) false _ ?s1 HL.out HRr.out).mono ?_); (case s1 => exact Kd.C_below HR.out ((E.out.set 1 (.string P) rfl).set 4 (.string (⟨#[]⟩ : ByteArray)) rfl).B); rintro e w13 ⟨rfl, hb⟩; refine ⟨_, rfl, ?_⟩; clear hx0 hx1 hx2 hx3 hx4 hy0 hy1 hy2 hy3 hy4 fy0 fy1 fy2 fy3 fy4 hz0 hz1 hz2 hz3 hz4 fz0 fz1 fz2 fz3 fz4; replace E := Aside0.mk (show EL _ _ _ w13 _ _ _ _ ((gw, #[.int .i64 kind, .string P, .slice A ps.length c, .string b, .string (⟨#[]⟩ : ByteArray)]) :: _) from ((E.out.set 1 (.string P) rfl).set 4 (.string (⟨#[]⟩ : ByteArray)) rfl).below hb); clear hb; obtain ⟨hz0, hz1, hz2, hz3, hz4⟩ := c5_ E.out.c1; obtain ⟨fz0, fz1, fz2, fz3, fz4⟩ := f5_ E.out.c1; obtain ⟨hy0, hy1, hy2, hy3, hy4⟩ := c5_ E.out.c2; obtain ⟨fy0, fy1, fy2, fy3, fy4⟩ := f5_ E.out.c2; obtain ⟨hx0, hx1, hx2, hx3, hx4⟩ := c5_ E.out.c3)
    | ((with_reducible refine gate_callee (f := 9) rfl ?_); refine gL_ 54 Tryz.func9 #[.agg #[.int .i64 kind, .string P, .slice A ps.length c, .string b, .string (⟨#[]⟩ : ByteArray)]] ?_; (with_reducible refine (Jd.calls kr kind P A c ps b (⟨#[]⟩ : ByteArray) false _ ?s1 HL.out HRr.out).mono ?_); (case s1 => exact Kd.C_below HR.out E.out.B); rintro e w14 ⟨rfl, hb⟩; refine ⟨_, rfl, ?_⟩; clear hx0 hx1 hx2 hx3 hx4 hy0 hy1 hy2 hy3 hy4 fy0 fy1 fy2 fy3 fy4 hz0 hz1 hz2 hz3 hz4 fz0 fz1 fz2 fz3 fz4; replace E := Aside0.mk (show EL _ _ _ w14 _ _ _ _ ((gw, #[.int .i64 kind, .string P, .slice A ps.length c, .string b, .string (⟨#[]⟩ : ByteArray)]) :: _) from E.out.below hb); clear hb; obtain ⟨hz0, hz1, hz2, hz3, hz4⟩ := c5_ E.out.c1; obtain ⟨fz0, fz1, fz2, fz3, fz4⟩ := f5_ E.out.c1; obtain ⟨hy0, hy1, hy2, hy3, hy4⟩ := c5_ E.out.c2; obtain ⟨fy0, fy1, fy2, fy3, fy4⟩ := f5_ E.out.c2; obtain ⟨hx0, hx1, hx2, hx3, hx4⟩ := c5_ E.out.c3)
    | (go_at_call 16; (refine (Jk.calls km 0 (⟨#[]⟩ : ByteArray) none 0 [] (⟨#[]⟩ : ByteArray) (⟨#[]⟩ : ByteArray) 0 (⟨#[]⟩ : ByteArray) none 0 [] (⟨#[]⟩ : ByteArray) (⟨#[]⟩ : ByteArray) true _ ?s1 ?s2 ?s3 ?s4 HSm.out).mono ?_); (case s1 => exact Kd.C_nil _ _); (case s2 => exact Nat.le_refl _); (case s3 => exact Kd.C_nil _ _); (case s4 => exact Nat.le_refl _); rintro e w15 ⟨rfl, hb⟩; clear hx0 hx1 hx2 hx3 hx4 hy0 hy1 hy2 hy3 hy4 fy0 fy1 fy2 fy3 fy4 hz0 hz1 hz2 hz3 hz4 fz0 fz1 fz2 fz3 fz4; replace E := Aside0.mk (E.out.below hb); clear hb; obtain ⟨hz0, hz1, hz2, hz3, hz4⟩ := c5_ E.out.c1; obtain ⟨fz0, fz1, fz2, fz3, fz4⟩ := f5_ E.out.c1; obtain ⟨hy0, hy1, hy2, hy3, hy4⟩ := c5_ E.out.c2; obtain ⟨fy0, fy1, fy2, fy3, fy4⟩ := f5_ E.out.c2; obtain ⟨hx0, hx1, hx2, hx3, hx4⟩ := c5_ E.out.c3)
    | (go_at_call 17; refine (used (lv pub) g sd 1 2 W _ E.out.I (by decide) (by decide)).mono ?_; rintro e w16 ⟨rfl, hw⟩; have hw := hw.symm; subst hw))
  go_ret
  exact ⟨rfl, E.out.B⟩
  go_enter Tryz.func4, Tryz.ntmps4
  go_wp2_with (first
    | ((with_reducible refine gate_dst (N := 3) rfl ?_); refine box_event ?hg (N := 3) ?hd (cs := #[.int .i64 kind, .string a, .slice A ps.length c, .string b, .string s]) (t := 24) ?hr ?_; (case hd => rfl); (case hg => rfl); (case hr => exact gr_); intro gb hg w1 hbox hb; have HB := Aside0.mk hb; have GB := Aside0.mk hg; have BX := Aside0.mk hbox; clear hg hbox hb; obtain ⟨hx0, hx1, hx2, hx3, hx4⟩ := c5_ BX.out)
    | ((with_reducible refine gate_callee (f := 5) rfl ?_); refine gL_ 15 Tryz.func5 #[.agg #[.int .i64 kind, .string a, .slice A ps.length c, .string b, .string s]] ?_; (with_reducible refine (Jf.calls k0 kind a A c ps b s false _ ?s1 HL.out HGr.out).mono ?_); (case s1 => exact Kd.C_below HR.out HB.out); rintro e w2 ⟨rfl, hb⟩; refine ⟨_, rfl, ?_⟩; clear hx0 hx1 hx2 hx3 hx4; replace BX := Aside0.mk (blk_below BX.out hb); replace HB := Aside0.mk (below_step HB.out hb); clear hb; obtain ⟨hx0, hx1, hx2, hx3, hx4⟩ := c5_ BX.out)
    | (go_at_call 6; (with_reducible refine (J5.calls ka true _ (Kd.C_below HG.out HB.out) HA.out).mono ?_); rintro e w3 ⟨rfl, hb⟩; clear hx0 hx1 hx2 hx3 hx4; replace BX := Aside0.mk (blk_below BX.out hb); replace HB := Aside0.mk (below_step HB.out hb); clear hb; obtain ⟨hx0, hx1, hx2, hx3, hx4⟩ := c5_ BX.out)
    | (go_at_call 7; refine (new_ok (lv pub) sd 1 0 W _ HB.out (by decide) (by decide) (by decide) (by decide)).mono ?_; rintro e w4 ⟨g, rfl, hI, hB, hb, _⟩; clear hx0 hx1 hx2 hx3 hx4; have E := Aside0.mk (EL.one hI hB (blk_below BX.out hb) (Nat.le_of_eq GB.out.symm)); clear hI hB hb; clear BX HB; obtain ⟨hx0, hx1, hx2, hx3, hx4⟩ := c5_ E.out.c1)
    | ((with_reducible refine gate_dst (N := 32) rfl ?_); refine Kd.R_lit Kd.string _ 9 ?hg (N := 32) ?hd (xs := ([] : List ByteArray)) (inner := []) (ok := fun _ => True) (okp := fun _ => True) ?hr ?hp (fun _ hk => hk) trivial (Below.refl _ _) (Nat.le_refl _) (by simp) ?_; (case hd => rfl); (case hg => rfl); (case hr => exact gr_); (case hp => exact Reps.none _ _); intro v5 w5 ho hb hg_ hnew_; clear hg_ hnew_; have HO := Aside0.mk ho; have HB5 := Aside0.mk hb; clear hx0 hx1 hx2 hx3 hx4; (obtain ⟨hx0, hx1, hx2, hx3, hx4⟩ := c5_ (blk_below E.out.c1 hb)); clear ho hb)
    | ((with_reducible refine gate_builtin (b := .append) (xs := #[.tmp 32, .tmp 34]) rfl ?_); at_builtin; refine Kd.R_append_rows Kd.string (w0 := w4) w4.heap.size rfl (.tmp 32) (.tmp 34) 22 9 (.string ⟨#[]⟩) 16 rfl Tryz.underlying22 info9 rfl (by decide) (by omega) v5 [] ps A ps.length c (fun _ => True) (fun _ => False) rfl rfl ?aO ?aR (fun _ _ h => h) (fun _ h => h.elim) ?aF ?aB ?aS ?aL ?_; (case aO => exact HO.out); (case aR => exact Kd.C_below HR.out (below_step E.out.B HB5.out)); (case aF => exact fun _ _ => trivial); (case aB => exact HB5.out); (case aS => exact HB5.out.size); (case aL => have := HN.out; simp only [List.length_nil]; omega); intro v6 w6 ho hb hg hat; clear hg hat; clear hx0 hx1 hx2 hx3 hx4; have HGL := Aside0.mk E.out.I.lt; replace E := Aside0.mk (E.out.below hb); have HW := Aside0.mk (show Kd.R Kd.string 9 w6 w4.heap.size (fun _ => True) v6 ps from ho); obtain ⟨Aw, cw, ew⟩ := Kd.R_slice HW.out; subst ew; clear ho hb HO HB5; obtain ⟨hx0, hx1, hx2, hx3, hx4⟩ := c5_ E.out.c1)
    | ((with_reducible refine gate_callee (f := 8) rfl ?_); refine gL_ 39 Tryz.func8 #[.agg #[.int .i64 kind, .string a, .slice A ps.length c, .string b, .string s], .pointer (some ⟨g, 0, none⟩)] ?_; (with_reducible refine (esign_form g sd 1 0 kind a A c ps b s W w6 E.out.I E.out.B HS.out HG.out HR.out HL.out HRt.out).mono ?_); rintro e w7 ⟨rfl, hI, hB, hK⟩; refine ⟨_, rfl, ?_⟩; clear hx0 hx1 hx2 hx3 hx4; replace E := Aside0.mk (E.out.step hI hB hK); clear hI hB hK; obtain ⟨hx0, hx1, hx2, hx3, hx4⟩ := c5_ E.out.c1)
    | ((with_reducible refine gate_dst (N := 10) rfl ?_); refine box_event ?hg (N := 10) ?hd (cs := #[.int .i64 0, .string (⟨#[]⟩ : ByteArray), .slice none 0 0, .string (⟨#[]⟩ : ByteArray), .string (⟨#[]⟩ : ByteArray)]) (t := 24) ?hr ?_; (case hd => rfl); (case hg => rfl); (case hr => exact gr_); intro gg hg w8 hbox hb; clear hx0 hx1 hx2 hx3 hx4; replace E := Aside0.mk (E.out.new hb hbox hg); clear hg hbox hb; obtain ⟨hy0, hy1, hy2, hy3, hy4⟩ := c5_ E.out.c1; obtain ⟨fy0, fy1, fy2, fy3, fy4⟩ := f5_ E.out.c1; obtain ⟨hx0, hx1, hx2, hx3, hx4⟩ := c5_ E.out.c2)
    | ((with_reducible refine gate_store (t := 24) (p := 10) rfl ?_); refine store_event (t := 24) (p := 10) (v := ?vo10) (w1 := w8.setCells gg 0 [.int .i64 0, .string (⟨#[]⟩ : ByteArray), .slice none 0 0, .string (⟨#[]⟩ : ByteArray), .string (⟨#[]⟩ : ByteArray)]) ?hg ?ho ?hn ?hr ?_; (case ho => rfl); (case hg => rfl); (case hn => rfl); (case hr => exact ev_store 0 (⟨#[]⟩ : ByteArray) none 0 0 (⟨#[]⟩ : ByteArray) (⟨#[]⟩ : ByteArray) rfl rfl rfl (by kernel_rfl) E.out.c1 rfl); intro w9 hw; clear hx0 hx1 hx2 hx3 hx4 hy0 hy1 hy2 hy3 hy4 fy0 fy1 fy2 fy3 fy4; replace E := Aside0.mk (show EL _ _ _ w9 _ _ _ _ ((gg, #[.int .i64 0, .string (⟨#[]⟩ : ByteArray), .slice none 0 0, .string (⟨#[]⟩ : ByteArray), .string (⟨#[]⟩ : ByteArray)]) :: _) from by rw [hw]; exact E.out.put _ rfl); clear hw; obtain ⟨hy0, hy1, hy2, hy3, hy4⟩ := c5_ E.out.c1; obtain ⟨fy0, fy1, fy2, fy3, fy4⟩ := f5_ E.out.c1; obtain ⟨hx0, hx1, hx2, hx3, hx4⟩ := c5_ E.out.c2)
    | ((with_reducible refine gate_dst (N := 12) rfl ?_); refine box_event ?hg (N := 12) ?hd (cs := #[.int .i64 0, .string (⟨#[]⟩ : ByteArray), .slice none 0 0, .string (⟨#[]⟩ : ByteArray), .string (⟨#[]⟩ : ByteArray)]) (t := 24) ?hr ?_; (case hd => rfl); (case hg => rfl); (case hr => exact gr_); intro gw hg w10 hbox hb; clear hx0 hx1 hx2 hx3 hx4 hy0 hy1 hy2 hy3 hy4 fy0 fy1 fy2 fy3 fy4; replace E := Aside0.mk (E.out.new hb hbox hg); clear hg hbox hb; obtain ⟨hz0, hz1, hz2, hz3, hz4⟩ := c5_ E.out.c1; obtain ⟨fz0, fz1, fz2, fz3, fz4⟩ := f5_ E.out.c1; obtain ⟨hy0, hy1, hy2, hy3, hy4⟩ := c5_ E.out.c2; obtain ⟨fy0, fy1, fy2, fy3, fy4⟩ := f5_ E.out.c2; obtain ⟨hx0, hx1, hx2, hx3, hx4⟩ := c5_ E.out.c3)
    | ((with_reducible refine gate_store (t := 24) (p := 12) rfl ?_); refine store_event (t := 24) (p := 12) (v := ?vo12) (w1 := w10.setCells gw 0 [.int .i64 kind, .string a, .slice A ps.length c, .string b, .string s]) ?hg ?ho ?hn ?hr ?_; (case ho => rfl); (case hg => rfl); (case hn => rfl); (case hr => exact ev_store kind a A ps.length c b s rfl rfl rfl (by kernel_rfl) E.out.c1 rfl); intro w11 hw; clear hx0 hx1 hx2 hx3 hx4 hy0 hy1 hy2 hy3 hy4 fy0 fy1 fy2 fy3 fy4 hz0 hz1 hz2 hz3 hz4 fz0 fz1 fz2 fz3 fz4; replace E := Aside0.mk (show EL _ _ _ w11 _ _ _ _ ((gw, #[.int .i64 kind, .string a, .slice A ps.length c, .string b, .string s]) :: _) from by rw [hw]; exact E.out.put _ rfl); clear hw; obtain ⟨hz0, hz1, hz2, hz3, hz4⟩ := c5_ E.out.c1; obtain ⟨fz0, fz1, fz2, fz3, fz4⟩ := f5_ E.out.c1; obtain ⟨hy0, hy1, hy2, hy3, hy4⟩ := c5_ E.out.c2; obtain ⟨fy0, fy1, fy2, fy3, fy4⟩ := f5_ E.out.c2; obtain ⟨hx0, hx1, hx2, hx3, hx4⟩ := c5_ E.out.c3)
    | (go_at_call 15; (with_reducible refine (Uk.calls kp sd 1 P _ HPb.out).mono ?_); rintro e w12 ⟨rfl, hb⟩; clear hx0 hx1 hx2 hx3 hx4 hy0 hy1 hy2 hy3 hy4 fy0 fy1 fy2 fy3 fy4 hz0 hz1 hz2 hz3 hz4 fz0 fz1 fz2 fz3 fz4; replace E := Aside0.mk (E.out.below hb); clear hb; obtain ⟨hz0, hz1, hz2, hz3, hz4⟩ := c5_ E.out.c1; obtain ⟨fz0, fz1, fz2, fz3, fz4⟩ := f5_ E.out.c1; obtain ⟨hy0, hy1, hy2, hy3, hy4⟩ := c5_ E.out.c2; obtain ⟨fy0, fy1, fy2, fy3, fy4⟩ := f5_ E.out.c2; obtain ⟨hx0, hx1, hx2, hx3, hx4⟩ := c5_ E.out.c3)
    | ((with_reducible refine gate_callee (f := 9) rfl ?_); refine gL_ 48 Tryz.func9 #[.agg #[.int .i64 kind, .string P, .slice A ps.length c, .string b, .string (⟨#[]⟩ : ByteArray)]] ?_; (with_reducible refine (Jd.calls kr kind P A c ps b (⟨#[]⟩ : ByteArray) false _ ?s1 HL.out HRr.out).mono ?_); (case s1 => exact Kd.C_below HR.out ((E.out.set 1 (.string P) rfl).set 4 (.string (⟨#[]⟩ : ByteArray)) rfl).B); rintro e w13 ⟨rfl, hb⟩; refine ⟨_, rfl, ?_⟩; clear hx0 hx1 hx2 hx3 hx4 hy0 hy1 hy2 hy3 hy4 fy0 fy1 fy2 fy3 fy4 hz0 hz1 hz2 hz3 hz4 fz0 fz1 fz2 fz3 fz4; replace E := Aside0.mk (show EL _ _ _ w13 _ _ _ _ ((gw, #[.int .i64 kind, .string P, .slice A ps.length c, .string b, .string (⟨#[]⟩ : ByteArray)]) :: _) from ((E.out.set 1 (.string P) rfl).set 4 (.string (⟨#[]⟩ : ByteArray)) rfl).below hb); clear hb; obtain ⟨hz0, hz1, hz2, hz3, hz4⟩ := c5_ E.out.c1; obtain ⟨fz0, fz1, fz2, fz3, fz4⟩ := f5_ E.out.c1; obtain ⟨hy0, hy1, hy2, hy3, hy4⟩ := c5_ E.out.c2; obtain ⟨fy0, fy1, fy2, fy3, fy4⟩ := f5_ E.out.c2; obtain ⟨hx0, hx1, hx2, hx3, hx4⟩ := c5_ E.out.c3)
    | ((with_reducible refine gate_callee (f := 9) rfl ?_); refine gL_ 54 Tryz.func9 #[.agg #[.int .i64 kind, .string P, .slice A ps.length c, .string b, .string (⟨#[]⟩ : ByteArray)]] ?_; (with_reducible refine (Jd.calls kr kind P A c ps b (⟨#[]⟩ : ByteArray) false _ ?s1 HL.out HRr.out).mono ?_); (case s1 => exact Kd.C_below HR.out E.out.B); rintro e w14 ⟨rfl, hb⟩; refine ⟨_, rfl, ?_⟩; clear hx0 hx1 hx2 hx3 hx4 hy0 hy1 hy2 hy3 hy4 fy0 fy1 fy2 fy3 fy4 hz0 hz1 hz2 hz3 hz4 fz0 fz1 fz2 fz3 fz4; replace E := Aside0.mk (show EL _ _ _ w14 _ _ _ _ ((gw, #[.int .i64 kind, .string P, .slice A ps.length c, .string b, .string (⟨#[]⟩ : ByteArray)]) :: _) from E.out.below hb); clear hb; obtain ⟨hz0, hz1, hz2, hz3, hz4⟩ := c5_ E.out.c1; obtain ⟨fz0, fz1, fz2, fz3, fz4⟩ := f5_ E.out.c1; obtain ⟨hy0, hy1, hy2, hy3, hy4⟩ := c5_ E.out.c2; obtain ⟨fy0, fy1, fy2, fy3, fy4⟩ := f5_ E.out.c2; obtain ⟨hx0, hx1, hx2, hx3, hx4⟩ := c5_ E.out.c3)
    | (go_at_call 16; (refine (Jk.calls km 0 (⟨#[]⟩ : ByteArray) none 0 [] (⟨#[]⟩ : ByteArray) (⟨#[]⟩ : ByteArray) 0 (⟨#[]⟩ : ByteArray) none 0 [] (⟨#[]⟩ : ByteArray) (⟨#[]⟩ : ByteArray) true _ ?s1 ?s2 ?s3 ?s4 HSm.out).mono ?_); (case s1 => exact Kd.C_nil _ _); (case s2 => exact Nat.le_refl _); (case s3 => exact Kd.C_nil _ _); (case s4 => exact Nat.le_refl _); rintro e w15 ⟨rfl, hb⟩; clear hx0 hx1 hx2 hx3 hx4 hy0 hy1 hy2 hy3 hy4 fy0 fy1 fy2 fy3 fy4 hz0 hz1 hz2 hz3 hz4 fz0 fz1 fz2 fz3 fz4; replace E := Aside0.mk (E.out.below hb); clear hb; obtain ⟨hz0, hz1, hz2, hz3, hz4⟩ := c5_ E.out.c1; obtain ⟨fz0, fz1, fz2, fz3, fz4⟩ := f5_ E.out.c1; obtain ⟨hy0, hy1, hy2, hy3, hy4⟩ := c5_ E.out.c2; obtain ⟨fy0, fy1, fy2, fy3, fy4⟩ := f5_ E.out.c2; obtain ⟨hx0, hx1, hx2, hx3, hx4⟩ := c5_ E.out.c3)
    | (go_at_call 17; refine (used (lv pub) g sd 1 0 W _ E.out.I (by decide) (by decide)).mono ?_; rintro e w16 ⟨rfl, hw⟩; have hw := hw.symm; subst hw))
  go_ret
  exact ⟨rfl, E.out.B⟩
set_option maxRecDepth 100000 in
set_option maxHeartbeats 6400000 in
theorem signs_spent (kind : Int) (a : ByteArray) (A : Option Addr) (c : Nat) (ps : List ByteArray) (b s sd : ByteArray) (W : World) (hr : Kd.C Kd.string W A ps.length ps) (hc : ps.length ≤ c) (hG : Keys W) (hs : sd.size ≤ 300) (hE : Sha.Ev (fun k => Jf.f k kind a ps b s) false) (hRt : rightB kind (pubK sd 1) ps b ⟨#[]⟩ = true) :
    Calls Tryz.prog 4 #[.agg #[.int .i64 kind, .string a, .slice A ps.length c, .string b, .string s], .string sd, .bool true] W fun e w' => e = .returned (.bool true) ∧ Below W.heap.size W w' := by
  obtain ⟨ka, hA⟩ := awake_ev.get
  have HA := Aside0.mk hA
  have HG := Aside0.mk hG
  have HR := Aside0.mk hr
  have HL := Aside0.mk hc
  obtain ⟨P, hP⟩ : ∃ P, pubK sd 1 = P := ⟨_, rfl⟩
  rw [hP] at hRt
  obtain ⟨kp, hPb⟩ := (rpublic_ sd hs 1 (by decide) (by decide)).get
  rw [hP] at hPb
  have hn := great_len hE
  obtain ⟨k0, hGr⟩ := hE.get
  obtain ⟨kr, hRr⟩ := (rright_ev kind P ps b ⟨#[]⟩ hr.2.1).get
  rw [hRt] at hRr
  have HGr := Aside0.mk hGr
  have HP := Aside0.mk hP
  have HPb := Aside0.mk hPb
  have HRr := Aside0.mk hRr
  have HS := Aside0.mk hs
  have HN := Aside0.mk hn
  have p1 : ((sd.size : Int) > 300) = False := eq_false (by omega)
  have p2 : (300 < sd.size) = False := eq_false (by omega)
  have p3 : (300 < (sd.size : Int)) = False := eq_false (by omega)
  have HRt := Aside0.mk (show rightB kind (pubK sd 1) ps b ⟨#[]⟩ = true from by rw [hP]; exact hRt)
  obtain ⟨km, hSm⟩ := same_none.get
  have HSm := Aside0.mk hSm
  clear hSm hA hG hr hc hP hPb hn hGr hRr hs hE hRt
  go_enter Tryz.func4, Tryz.ntmps4
  go_wp2_with (first
    | ((with_reducible refine gate_dst (N := 3) rfl ?_); refine box_event ?hg (N := 3) ?hd (cs := #[.int .i64 kind, .string a, .slice A ps.length c, .string b, .string s]) (t := 24) ?hr ?_; (case hd => rfl); (case hg => rfl); (case hr => exact gr_); intro gb hg w1 hbox hb; have HB := Aside0.mk hb; have GB := Aside0.mk hg; have BX := Aside0.mk hbox; clear hg hbox hb; obtain ⟨hx0, hx1, hx2, hx3, hx4⟩ := c5_ BX.out)
    | ((with_reducible refine gate_callee (f := 5) rfl ?_); refine gL_ 15 Tryz.func5 #[.agg #[.int .i64 kind, .string a, .slice A ps.length c, .string b, .string s]] ?_; (with_reducible refine (Jf.calls k0 kind a A c ps b s false _ ?s1 HL.out HGr.out).mono ?_); (case s1 => exact Kd.C_below HR.out HB.out); rintro e w2 ⟨rfl, hb⟩; refine ⟨_, rfl, ?_⟩; clear hx0 hx1 hx2 hx3 hx4; replace BX := Aside0.mk (blk_below BX.out hb); replace HB := Aside0.mk (below_step HB.out hb); clear hb; obtain ⟨hx0, hx1, hx2, hx3, hx4⟩ := c5_ BX.out)
    | (go_at_call 6; (with_reducible refine (J5.calls ka true _ (Kd.C_below HG.out HB.out) HA.out).mono ?_); rintro e w3 ⟨rfl, hb⟩; clear hx0 hx1 hx2 hx3 hx4; replace BX := Aside0.mk (blk_below BX.out hb); replace HB := Aside0.mk (below_step HB.out hb); clear hb; obtain ⟨hx0, hx1, hx2, hx3, hx4⟩ := c5_ BX.out)
    | (go_at_call 7; refine (new_ok (lv pub) sd 1 2 W _ HB.out (by decide) (by decide) (by decide) (by decide)).mono ?_; rintro e w4 ⟨g, rfl, hI, hB, hb, _⟩; clear hx0 hx1 hx2 hx3 hx4; have E := Aside0.mk (EL.one hI hB (blk_below BX.out hb) (Nat.le_of_eq GB.out.symm)); clear hI hB hb; clear BX HB; obtain ⟨hx0, hx1, hx2, hx3, hx4⟩ := c5_ E.out.c1)
    | ((with_reducible refine gate_dst (N := 32) rfl ?_); refine Kd.R_lit Kd.string _ 9 ?hg (N := 32) ?hd (xs := ([] : List ByteArray)) (inner := []) (ok := fun _ => True) (okp := fun _ => True) ?hr ?hp (fun _ hk => hk) trivial (Below.refl _ _) (Nat.le_refl _) (by simp) ?_; (case hd => rfl); (case hg => rfl); (case hr => exact gr_); (case hp => exact Reps.none _ _); intro v5 w5 ho hb hg_ hnew_; clear hg_ hnew_; have HO := Aside0.mk ho; have HB5 := Aside0.mk hb; clear hx0 hx1 hx2 hx3 hx4; (obtain ⟨hx0, hx1, hx2, hx3, hx4⟩ := c5_ (blk_below E.out.c1 hb)); clear ho hb)
    | ((with_reducible refine gate_builtin (b := .append) (xs := #[.tmp 32, .tmp 34]) rfl ?_); at_builtin; refine Kd.R_append_rows Kd.string (w0 := w4) w4.heap.size rfl (.tmp 32) (.tmp 34) 22 9 (.string ⟨#[]⟩) 16 rfl Tryz.underlying22 info9 rfl (by decide) (by omega) v5 [] ps A ps.length c (fun _ => True) (fun _ => False) rfl rfl ?aO ?aR (fun _ _ h => h) (fun _ h => h.elim) ?aF ?aB ?aS ?aL ?_; (case aO => exact HO.out); (case aR => exact Kd.C_below HR.out (below_step E.out.B HB5.out)); (case aF => exact fun _ _ => trivial); (case aB => exact HB5.out); (case aS => exact HB5.out.size); (case aL => have := HN.out; simp only [List.length_nil]; omega); intro v6 w6 ho hb hg hat; clear hg hat; clear hx0 hx1 hx2 hx3 hx4; have HGL := Aside0.mk E.out.I.lt; replace E := Aside0.mk (E.out.below hb); have HW := Aside0.mk (show Kd.R Kd.string 9 w6 w4.heap.size (fun _ => True) v6 ps from ho); obtain ⟨Aw, cw, ew⟩ := Kd.R_slice HW.out; subst ew; clear ho hb HO HB5; obtain ⟨hx0, hx1, hx2, hx3, hx4⟩ := c5_ E.out.c1)
    | ((with_reducible refine gate_callee (f := 8) rfl ?_); refine gL_ 39 Tryz.func8 #[.agg #[.int .i64 kind, .string a, .slice A ps.length c, .string b, .string s], .pointer (some ⟨g, 0, none⟩)] ?_; (with_reducible refine (esign_spent g sd 1 2 kind a A c ps b s W w6 E.out.I E.out.B HS.out HG.out HR.out HL.out (by decide) HRt.out).mono ?_); rintro e w7 ⟨rfl, hI, hB, hK⟩; refine ⟨_, rfl, ?_⟩; clear hx0 hx1 hx2 hx3 hx4; replace E := Aside0.mk (E.out.step hI hB hK); clear hI hB hK; obtain ⟨hx0, hx1, hx2, hx3, hx4⟩ := c5_ E.out.c1)
    | ((with_reducible refine gate_dst (N := 10) rfl ?_); refine box_event ?hg (N := 10) ?hd (cs := #[.int .i64 0, .string (⟨#[]⟩ : ByteArray), .slice none 0 0, .string (⟨#[]⟩ : ByteArray), .string (⟨#[]⟩ : ByteArray)]) (t := 24) ?hr ?_; (case hd => rfl); (case hg => rfl); (case hr => exact gr_); intro gg hg w8 hbox hb; clear hx0 hx1 hx2 hx3 hx4; replace E := Aside0.mk (E.out.new hb hbox hg); clear hg hbox hb; obtain ⟨hy0, hy1, hy2, hy3, hy4⟩ := c5_ E.out.c1; obtain ⟨fy0, fy1, fy2, fy3, fy4⟩ := f5_ E.out.c1; obtain ⟨hx0, hx1, hx2, hx3, hx4⟩ := c5_ E.out.c2)
    | ((with_reducible refine gate_store (t := 24) (p := 10) rfl ?_); refine store_event (t := 24) (p := 10) (v := ?vo10) (w1 := w8.setCells gg 0 [.int .i64 0, .string (⟨#[]⟩ : ByteArray), .slice none 0 0, .string (⟨#[]⟩ : ByteArray), .string (⟨#[]⟩ : ByteArray)]) ?hg ?ho ?hn ?hr ?_; (case ho => rfl); (case hg => rfl); (case hn => rfl); (case hr => exact ev_store 0 (⟨#[]⟩ : ByteArray) none 0 0 (⟨#[]⟩ : ByteArray) (⟨#[]⟩ : ByteArray) rfl rfl rfl (by kernel_rfl) E.out.c1 rfl); intro w9 hw; clear hx0 hx1 hx2 hx3 hx4 hy0 hy1 hy2 hy3 hy4 fy0 fy1 fy2 fy3 fy4; replace E := Aside0.mk (show EL _ _ _ w9 _ _ _ _ ((gg, #[.int .i64 0, .string (⟨#[]⟩ : ByteArray), .slice none 0 0, .string (⟨#[]⟩ : ByteArray), .string (⟨#[]⟩ : ByteArray)]) :: _) from by rw [hw]; exact E.out.put _ rfl); clear hw; obtain ⟨hy0, hy1, hy2, hy3, hy4⟩ := c5_ E.out.c1; obtain ⟨fy0, fy1, fy2, fy3, fy4⟩ := f5_ E.out.c1; obtain ⟨hx0, hx1, hx2, hx3, hx4⟩ := c5_ E.out.c2)
    | ((with_reducible refine gate_dst (N := 12) rfl ?_); refine box_event ?hg (N := 12) ?hd (cs := #[.int .i64 0, .string (⟨#[]⟩ : ByteArray), .slice none 0 0, .string (⟨#[]⟩ : ByteArray), .string (⟨#[]⟩ : ByteArray)]) (t := 24) ?hr ?_; (case hd => rfl); (case hg => rfl); (case hr => exact gr_); intro gw hg w10 hbox hb; clear hx0 hx1 hx2 hx3 hx4 hy0 hy1 hy2 hy3 hy4 fy0 fy1 fy2 fy3 fy4; replace E := Aside0.mk (E.out.new hb hbox hg); clear hg hbox hb; obtain ⟨hz0, hz1, hz2, hz3, hz4⟩ := c5_ E.out.c1; obtain ⟨fz0, fz1, fz2, fz3, fz4⟩ := f5_ E.out.c1; obtain ⟨hy0, hy1, hy2, hy3, hy4⟩ := c5_ E.out.c2; obtain ⟨fy0, fy1, fy2, fy3, fy4⟩ := f5_ E.out.c2; obtain ⟨hx0, hx1, hx2, hx3, hx4⟩ := c5_ E.out.c3)
    | ((with_reducible refine gate_store (t := 24) (p := 12) rfl ?_); refine store_event (t := 24) (p := 12) (v := ?vo12) (w1 := w10.setCells gw 0 [.int .i64 kind, .string a, .slice A ps.length c, .string b, .string s]) ?hg ?ho ?hn ?hr ?_; (case ho => rfl); (case hg => rfl); (case hn => rfl); (case hr => exact ev_store kind a A ps.length c b s rfl rfl rfl (by kernel_rfl) E.out.c1 rfl); intro w11 hw; clear hx0 hx1 hx2 hx3 hx4 hy0 hy1 hy2 hy3 hy4 fy0 fy1 fy2 fy3 fy4 hz0 hz1 hz2 hz3 hz4 fz0 fz1 fz2 fz3 fz4; replace E := Aside0.mk (show EL _ _ _ w11 _ _ _ _ ((gw, #[.int .i64 kind, .string a, .slice A ps.length c, .string b, .string s]) :: _) from by rw [hw]; exact E.out.put _ rfl); clear hw; obtain ⟨hz0, hz1, hz2, hz3, hz4⟩ := c5_ E.out.c1; obtain ⟨fz0, fz1, fz2, fz3, fz4⟩ := f5_ E.out.c1; obtain ⟨hy0, hy1, hy2, hy3, hy4⟩ := c5_ E.out.c2; obtain ⟨fy0, fy1, fy2, fy3, fy4⟩ := f5_ E.out.c2; obtain ⟨hx0, hx1, hx2, hx3, hx4⟩ := c5_ E.out.c3)
    | (go_at_call 15; (with_reducible refine (Uk.calls kp sd 1 P _ HPb.out).mono ?_); rintro e w12 ⟨rfl, hb⟩; clear hx0 hx1 hx2 hx3 hx4 hy0 hy1 hy2 hy3 hy4 fy0 fy1 fy2 fy3 fy4 hz0 hz1 hz2 hz3 hz4 fz0 fz1 fz2 fz3 fz4; replace E := Aside0.mk (E.out.below hb); clear hb; obtain ⟨hz0, hz1, hz2, hz3, hz4⟩ := c5_ E.out.c1; obtain ⟨fz0, fz1, fz2, fz3, fz4⟩ := f5_ E.out.c1; obtain ⟨hy0, hy1, hy2, hy3, hy4⟩ := c5_ E.out.c2; obtain ⟨fy0, fy1, fy2, fy3, fy4⟩ := f5_ E.out.c2; obtain ⟨hx0, hx1, hx2, hx3, hx4⟩ := c5_ E.out.c3)
    | ((with_reducible refine gate_callee (f := 9) rfl ?_); refine gL_ 48 Tryz.func9 #[.agg #[.int .i64 kind, .string P, .slice A ps.length c, .string b, .string (⟨#[]⟩ : ByteArray)]] ?_; (with_reducible refine (Jd.calls kr kind P A c ps b (⟨#[]⟩ : ByteArray) true _ ?s1 HL.out HRr.out).mono ?_); (case s1 => exact Kd.C_below HR.out ((E.out.set 1 (.string P) rfl).set 4 (.string (⟨#[]⟩ : ByteArray)) rfl).B); rintro e w13 ⟨rfl, hb⟩; refine ⟨_, rfl, ?_⟩; clear hx0 hx1 hx2 hx3 hx4 hy0 hy1 hy2 hy3 hy4 fy0 fy1 fy2 fy3 fy4 hz0 hz1 hz2 hz3 hz4 fz0 fz1 fz2 fz3 fz4; replace E := Aside0.mk (show EL _ _ _ w13 _ _ _ _ ((gw, #[.int .i64 kind, .string P, .slice A ps.length c, .string b, .string (⟨#[]⟩ : ByteArray)]) :: _) from ((E.out.set 1 (.string P) rfl).set 4 (.string (⟨#[]⟩ : ByteArray)) rfl).below hb); clear hb; obtain ⟨hz0, hz1, hz2, hz3, hz4⟩ := c5_ E.out.c1; obtain ⟨fz0, fz1, fz2, fz3, fz4⟩ := f5_ E.out.c1; obtain ⟨hy0, hy1, hy2, hy3, hy4⟩ := c5_ E.out.c2; obtain ⟨fy0, fy1, fy2, fy3, fy4⟩ := f5_ E.out.c2; obtain ⟨hx0, hx1, hx2, hx3, hx4⟩ := c5_ E.out.c3)
    | ((with_reducible refine gate_callee (f := 9) rfl ?_); refine gL_ 54 Tryz.func9 #[.agg #[.int .i64 kind, .string P, .slice A ps.length c, .string b, .string (⟨#[]⟩ : ByteArray)]] ?_; (with_reducible refine (Jd.calls kr kind P A c ps b (⟨#[]⟩ : ByteArray) true _ ?s1 HL.out HRr.out).mono ?_); (case s1 => exact Kd.C_below HR.out E.out.B); rintro e w14 ⟨rfl, hb⟩; refine ⟨_, rfl, ?_⟩; clear hx0 hx1 hx2 hx3 hx4 hy0 hy1 hy2 hy3 hy4 fy0 fy1 fy2 fy3 fy4 hz0 hz1 hz2 hz3 hz4 fz0 fz1 fz2 fz3 fz4; replace E := Aside0.mk (show EL _ _ _ w14 _ _ _ _ ((gw, #[.int .i64 kind, .string P, .slice A ps.length c, .string b, .string (⟨#[]⟩ : ByteArray)]) :: _) from E.out.below hb); clear hb; obtain ⟨hz0, hz1, hz2, hz3, hz4⟩ := c5_ E.out.c1; obtain ⟨fz0, fz1, fz2, fz3, fz4⟩ := f5_ E.out.c1; obtain ⟨hy0, hy1, hy2, hy3, hy4⟩ := c5_ E.out.c2; obtain ⟨fy0, fy1, fy2, fy3, fy4⟩ := f5_ E.out.c2; obtain ⟨hx0, hx1, hx2, hx3, hx4⟩ := c5_ E.out.c3)
    | (go_at_call 16; (refine (Jk.calls km 0 (⟨#[]⟩ : ByteArray) none 0 [] (⟨#[]⟩ : ByteArray) (⟨#[]⟩ : ByteArray) 0 (⟨#[]⟩ : ByteArray) none 0 [] (⟨#[]⟩ : ByteArray) (⟨#[]⟩ : ByteArray) true _ ?s1 ?s2 ?s3 ?s4 HSm.out).mono ?_); (case s1 => exact Kd.C_nil _ _); (case s2 => exact Nat.le_refl _); (case s3 => exact Kd.C_nil _ _); (case s4 => exact Nat.le_refl _); rintro e w15 ⟨rfl, hb⟩; clear hx0 hx1 hx2 hx3 hx4 hy0 hy1 hy2 hy3 hy4 fy0 fy1 fy2 fy3 fy4 hz0 hz1 hz2 hz3 hz4 fz0 fz1 fz2 fz3 fz4; replace E := Aside0.mk (E.out.below hb); clear hb; obtain ⟨hz0, hz1, hz2, hz3, hz4⟩ := c5_ E.out.c1; obtain ⟨fz0, fz1, fz2, fz3, fz4⟩ := f5_ E.out.c1; obtain ⟨hy0, hy1, hy2, hy3, hy4⟩ := c5_ E.out.c2; obtain ⟨fy0, fy1, fy2, fy3, fy4⟩ := f5_ E.out.c2; obtain ⟨hx0, hx1, hx2, hx3, hx4⟩ := c5_ E.out.c3)
    | (go_at_call 17; refine (used (lv pub) g sd 1 2 W _ E.out.I (by decide) (by decide)).mono ?_; rintro e w16 ⟨rfl, hw⟩; have hw := hw.symm; subst hw))
  go_ret
  exact ⟨rfl, E.out.B⟩
set_option maxRecDepth 100000 in
set_option maxHeartbeats 6400000 in
theorem signs_ok (kind : Int) (a : ByteArray) (A : Option Addr) (c : Nat) (ps : List ByteArray) (b s sd : ByteArray) (W : World) (hr : Kd.C Kd.string W A ps.length ps) (hc : ps.length ≤ c) (hG : Keys W) (hs : sd.size ≤ 300) (hE : Sha.Ev (fun k => Jf.f k kind a ps b s) false) (hRt : rightB kind (pubK sd 1) ps b ⟨#[]⟩ = true) :
    Calls Tryz.prog 4 #[.agg #[.int .i64 kind, .string a, .slice A ps.length c, .string b, .string s], .string sd, .bool false] W fun e w' => e = .returned (.bool true) ∧ Below W.heap.size W w' := by
  obtain ⟨ka, hA⟩ := awake_ev.get
  have HA := Aside0.mk hA
  have HG := Aside0.mk hG
  have HR := Aside0.mk hr
  have HL := Aside0.mk hc
  obtain ⟨P, hP⟩ : ∃ P, pubK sd 1 = P := ⟨_, rfl⟩
  rw [hP] at hRt
  obtain ⟨kp, hPb⟩ := (rpublic_ sd hs 1 (by decide) (by decide)).get
  rw [hP] at hPb
  have hn := great_len hE
  obtain ⟨k0, hGr⟩ := hE.get
  obtain ⟨kr, hRr⟩ := (rright_ev kind P ps b ⟨#[]⟩ hr.2.1).get
  rw [hRt] at hRr
  have HGr := Aside0.mk hGr
  have HP := Aside0.mk hP
  have HPb := Aside0.mk hPb
  have HRr := Aside0.mk hRr
  have HS := Aside0.mk hs
  have HN := Aside0.mk hn
  have p1 : ((sd.size : Int) > 300) = False := eq_false (by omega)
  have p2 : (300 < sd.size) = False := eq_false (by omega)
  have p3 : (300 < (sd.size : Int)) = False := eq_false (by omega)
  have HRt := Aside0.mk (show rightB kind (pubK sd 1) ps b ⟨#[]⟩ = true from by rw [hP]; exact hRt)
  obtain ⟨_, _, _, n8, n2, _, _⟩ := right_has hRt
  have hz := cont_size hRt
  obtain ⟨m, hm⟩ : ∃ m, cont kind P ps b = m := ⟨_, rfl⟩
  obtain ⟨S, hS⟩ : ∃ S, sigK sd 1 0 m = S := ⟨_, rfl⟩
  have hsz := sigK_size sd 1 0 (by decide) (by decide) m
  have hvf := verify_sig sd 1 0 (by decide) (by decide) (by decide) (by decide) m (by rw [← hm]; omega)
  obtain ⟨kc, hCc⟩ := (rcont_ev hRt ⟨#[]⟩).get
  obtain ⟨ks, hSs⟩ := (rsign_ sd hs 1 0 (by decide) (by decide) (by decide) (by decide) m (by rw [← hm]; omega)).get
  rw [hS] at hsz hvf hSs
  rw [hP] at hvf
  rw [hm] at hCc hz
  have hRS := right_sig hRt (show S.size ≤ 65535 by rw [hsz]; decide)
  obtain ⟨km, hSm⟩ := (same_right hRS).get
  obtain ⟨kk, hCk⟩ : ∃ k, Ui.f k kind P ps b S = some 0 := by
    refine Sha.Ev.get (v := 0) ?_
    unfold Ui.f
    refine Sha.Ev.bind (con_ev kind P ps b S hr.2.1) ?_
    unfold conR
    rw [if_pos hRt, hm]
    refine ifs rfl (Sha.Ev.bind (right_ev kind P ps b S hr.2.1) ?_)
    rw [hRS]
    exact Sha.Ev.succ (fun k => Ui.j0.eq_2 m (!true) kind P ps b S k) (ifn (by decide) (Sha.Ev.bind hvf (ifs rfl (Sha.Ev.pure _))))
  have HCo := Aside0.mk hm
  have HSg := Aside0.mk hS
  have HCc := Aside0.mk hCc
  have HSs := Aside0.mk hSs
  have HSm := Aside0.mk hSm
  have HCk := Aside0.mk hCk
  clear hA hG hr hc hP hPb hn hGr hRr hs hE hRt n8 n2 hz hm hS hsz hvf hCc hSs hRS hSm hCk
  go_enter Tryz.func4, Tryz.ntmps4
  go_upto_region 22 with (first
    | ((with_reducible refine gate_dst (N := 3) rfl ?_); refine box_event ?hg (N := 3) ?hd (cs := #[.int .i64 kind, .string a, .slice A ps.length c, .string b, .string s]) (t := 24) ?hr ?_; (case hd => rfl); (case hg => rfl); (case hr => exact gr_); intro gb hg w1 hbox hb; have HB := Aside0.mk hb; have GB := Aside0.mk hg; have BX := Aside0.mk hbox; clear hg hbox hb; obtain ⟨hx0, hx1, hx2, hx3, hx4⟩ := c5_ BX.out)
    | ((with_reducible refine gate_callee (f := 5) rfl ?_); refine gL_ 15 Tryz.func5 #[.agg #[.int .i64 kind, .string a, .slice A ps.length c, .string b, .string s]] ?_; (with_reducible refine (Jf.calls k0 kind a A c ps b s false _ ?s1 HL.out HGr.out).mono ?_); (case s1 => exact Kd.C_below HR.out HB.out); rintro e w2 ⟨rfl, hb⟩; refine ⟨_, rfl, ?_⟩; clear hx0 hx1 hx2 hx3 hx4; replace BX := Aside0.mk (blk_below BX.out hb); replace HB := Aside0.mk (below_step HB.out hb); clear hb; obtain ⟨hx0, hx1, hx2, hx3, hx4⟩ := c5_ BX.out)
    | (go_at_call 6; (with_reducible refine (J5.calls ka true _ (Kd.C_below HG.out HB.out) HA.out).mono ?_); rintro e w3 ⟨rfl, hb⟩; clear hx0 hx1 hx2 hx3 hx4; replace BX := Aside0.mk (blk_below BX.out hb); replace HB := Aside0.mk (below_step HB.out hb); clear hb; obtain ⟨hx0, hx1, hx2, hx3, hx4⟩ := c5_ BX.out)
    | (go_at_call 7; refine (new_ok (lv pub) sd 1 0 W _ HB.out (by decide) (by decide) (by decide) (by decide)).mono ?_; rintro e w4 ⟨g, rfl, hI, hB, hb, _⟩; clear hx0 hx1 hx2 hx3 hx4; have E := Aside0.mk (EL.one hI hB (blk_below BX.out hb) (Nat.le_of_eq GB.out.symm)); clear hI hB hb; clear BX HB; obtain ⟨hx0, hx1, hx2, hx3, hx4⟩ := c5_ E.out.c1)
    | ((with_reducible refine gate_dst (N := 32) rfl ?_); refine Kd.R_lit Kd.string _ 9 ?hg (N := 32) ?hd (xs := ([] : List ByteArray)) (inner := []) (ok := fun _ => True) (okp := fun _ => True) ?hr ?hp (fun _ hk => hk) trivial (Below.refl _ _) (Nat.le_refl _) (by simp) ?_; (case hd => rfl); (case hg => rfl); (case hr => exact gr_); (case hp => exact Reps.none _ _); intro v5 w5 ho hb hg_ hnew_; clear hg_ hnew_; have HO := Aside0.mk ho; have HB5 := Aside0.mk hb; clear hx0 hx1 hx2 hx3 hx4; (obtain ⟨hx0, hx1, hx2, hx3, hx4⟩ := c5_ (blk_below E.out.c1 hb)); clear ho hb)
    | ((with_reducible refine gate_builtin (b := .append) (xs := #[.tmp 32, .tmp 34]) rfl ?_); at_builtin; refine Kd.R_append_rows Kd.string (w0 := w4) w4.heap.size rfl (.tmp 32) (.tmp 34) 22 9 (.string ⟨#[]⟩) 16 rfl Tryz.underlying22 info9 rfl (by decide) (by omega) v5 [] ps A ps.length c (fun _ => True) (fun _ => False) rfl rfl ?aO ?aR (fun _ _ h => h) (fun _ h => h.elim) ?aF ?aB ?aS ?aL ?_; (case aO => exact HO.out); (case aR => exact Kd.C_below HR.out (below_step E.out.B HB5.out)); (case aF => exact fun _ _ => trivial); (case aB => exact HB5.out); (case aS => exact HB5.out.size); (case aL => have := HN.out; simp only [List.length_nil]; omega); intro v6 w6 ho hb hg hat; clear hg hat; clear hx0 hx1 hx2 hx3 hx4; have HGL := Aside0.mk E.out.I.lt; replace E := Aside0.mk (E.out.below hb); have HW := Aside0.mk (show Kd.R Kd.string 9 w6 w4.heap.size (fun _ => True) v6 ps from ho); obtain ⟨Aw, cw, ew⟩ := Kd.R_slice HW.out; subst ew; clear ho hb HO HB5; obtain ⟨hx0, hx1, hx2, hx3, hx4⟩ := c5_ E.out.c1)
    | ((with_reducible refine gate_callee (f := 8) rfl ?_); refine gL_ 39 Tryz.func8 #[.agg #[.int .i64 kind, .string a, .slice A ps.length c, .string b, .string s], .pointer (some ⟨g, 0, none⟩)] ?_; (with_reducible refine (esign_ok g sd 1 0 kind a A c ps b s W w6 E.out.I E.out.B HS.out HG.out HR.out HL.out (by decide) (by decide) HRt.out).mono ?_); rintro e w7 ⟨vg, rfl, hv, hI, hB, hK⟩; refine ⟨_, rfl, ?_⟩; rw [HP.out, HCo.out, HSg.out]; clear hx0 hx1 hx2 hx3 hx4; replace HW := Aside0.mk (Kd.R_keep (Kd.R_mono (ok' := fun k => k < w6.heap.size ∧ k ≠ g) (Kd.R_bound HW.out) (fun k hk => ⟨hk.2.2.1, fun e => by have := HGL.out; have := hk.2.1; omega⟩)) hK (fun _ hk => hk.2)); have HG6 := Aside0.mk E.out.B.size; have HV := Aside0.mk hv; obtain ⟨Av, cv, eg⟩ := Kd.R_slice HV.out; subst eg; replace E := Aside0.mk (E.out.step hI hB hK); clear hv hI hB hK; obtain ⟨hx0, hx1, hx2, hx3, hx4⟩ := c5_ E.out.c1)
    | ((with_reducible refine gate_dst (N := 10) rfl ?_); refine box_event ?hg (N := 10) ?hd (cs := #[.int .i64 0, .string (⟨#[]⟩ : ByteArray), .slice none 0 0, .string (⟨#[]⟩ : ByteArray), .string (⟨#[]⟩ : ByteArray)]) (t := 24) ?hr ?_; (case hd => rfl); (case hg => rfl); (case hr => exact gr_); intro gg hg w8 hbox hb; clear hx0 hx1 hx2 hx3 hx4; replace HW := Aside0.mk (Kd.R_below HW.out hb); replace HV := Aside0.mk (Kd.R_below HV.out hb); replace E := Aside0.mk (E.out.new hb hbox hg); clear hg hbox hb; obtain ⟨hy0, hy1, hy2, hy3, hy4⟩ := c5_ E.out.c1; obtain ⟨fy0, fy1, fy2, fy3, fy4⟩ := f5_ E.out.c1; obtain ⟨hx0, hx1, hx2, hx3, hx4⟩ := c5_ E.out.c2)
    | ((with_reducible refine gate_store (t := 24) (p := 10) rfl ?_); refine store_event (t := 24) (p := 10) (v := ?vo10) (w1 := w8.setCells gg 0 [.int .i64 kind, .string P, .slice Av ps.length cv, .string b, .string S]) ?hg ?ho ?hn ?hr ?_; (case ho => rfl); (case hg => rfl); (case hn => rfl); (case hr => exact ev_store kind P Av ps.length cv b S rfl rfl rfl (by kernel_rfl) E.out.c1 rfl); intro w9 hw; clear hx0 hx1 hx2 hx3 hx4 hy0 hy1 hy2 hy3 hy4 fy0 fy1 fy2 fy3 fy4; replace HW := Aside0.mk (show Kd.R Kd.string 9 w9 _ _ _ _ from by rw [hw]; exact E.out.row (keep_puts _ _ _) HW.out); replace HV := Aside0.mk (show Kd.R Kd.string 9 w9 _ _ _ _ from by rw [hw]; exact E.out.row (keep_puts _ _ _) HV.out); replace E := Aside0.mk (show EL _ _ _ w9 _ _ _ _ ((gg, #[.int .i64 kind, .string P, .slice Av ps.length cv, .string b, .string S]) :: _) from by rw [hw]; exact E.out.put _ rfl); clear hw; obtain ⟨hy0, hy1, hy2, hy3, hy4⟩ := c5_ E.out.c1; obtain ⟨fy0, fy1, fy2, fy3, fy4⟩ := f5_ E.out.c1; obtain ⟨hx0, hx1, hx2, hx3, hx4⟩ := c5_ E.out.c2)
    | ((with_reducible refine gate_dst (N := 12) rfl ?_); refine box_event ?hg (N := 12) ?hd (cs := #[.int .i64 0, .string (⟨#[]⟩ : ByteArray), .slice none 0 0, .string (⟨#[]⟩ : ByteArray), .string (⟨#[]⟩ : ByteArray)]) (t := 24) ?hr ?_; (case hd => rfl); (case hg => rfl); (case hr => exact gr_); intro gw hg w10 hbox hb; clear hx0 hx1 hx2 hx3 hx4 hy0 hy1 hy2 hy3 hy4 fy0 fy1 fy2 fy3 fy4; replace HW := Aside0.mk (Kd.R_below HW.out hb); replace HV := Aside0.mk (Kd.R_below HV.out hb); replace E := Aside0.mk (E.out.new hb hbox hg); clear hg hbox hb; obtain ⟨hz0, hz1, hz2, hz3, hz4⟩ := c5_ E.out.c1; obtain ⟨fz0, fz1, fz2, fz3, fz4⟩ := f5_ E.out.c1; obtain ⟨hy0, hy1, hy2, hy3, hy4⟩ := c5_ E.out.c2; obtain ⟨fy0, fy1, fy2, fy3, fy4⟩ := f5_ E.out.c2; obtain ⟨hx0, hx1, hx2, hx3, hx4⟩ := c5_ E.out.c3)
    | ((with_reducible refine gate_store (t := 24) (p := 12) rfl ?_); refine store_event (t := 24) (p := 12) (v := ?vo12) (w1 := w10.setCells gw 0 [.int .i64 kind, .string a, .slice A ps.length c, .string b, .string s]) ?hg ?ho ?hn ?hr ?_; (case ho => rfl); (case hg => rfl); (case hn => rfl); (case hr => exact ev_store kind a A ps.length c b s rfl rfl rfl (by kernel_rfl) E.out.c1 rfl); intro w11 hw; clear hx0 hx1 hx2 hx3 hx4 hy0 hy1 hy2 hy3 hy4 fy0 fy1 fy2 fy3 fy4 hz0 hz1 hz2 hz3 hz4 fz0 fz1 fz2 fz3 fz4; replace HW := Aside0.mk (show Kd.R Kd.string 9 w11 _ _ _ _ from by rw [hw]; exact E.out.row (keep_puts _ _ _) HW.out); replace HV := Aside0.mk (show Kd.R Kd.string 9 w11 _ _ _ _ from by rw [hw]; exact E.out.row (keep_puts _ _ _) HV.out); replace E := Aside0.mk (show EL _ _ _ w11 _ _ _ _ ((gw, #[.int .i64 kind, .string a, .slice A ps.length c, .string b, .string s]) :: _) from by rw [hw]; exact E.out.put _ rfl); clear hw; obtain ⟨hz0, hz1, hz2, hz3, hz4⟩ := c5_ E.out.c1; obtain ⟨fz0, fz1, fz2, fz3, fz4⟩ := f5_ E.out.c1; obtain ⟨hy0, hy1, hy2, hy3, hy4⟩ := c5_ E.out.c2; obtain ⟨fy0, fy1, fy2, fy3, fy4⟩ := f5_ E.out.c2; obtain ⟨hx0, hx1, hx2, hx3, hx4⟩ := c5_ E.out.c3)
    | (go_at_call 15; (with_reducible refine (Uk.calls kp sd 1 P _ HPb.out).mono ?_); rintro e w12 ⟨rfl, hb⟩; clear hx0 hx1 hx2 hx3 hx4 hy0 hy1 hy2 hy3 hy4 fy0 fy1 fy2 fy3 fy4 hz0 hz1 hz2 hz3 hz4 fz0 fz1 fz2 fz3 fz4; replace HW := Aside0.mk (Kd.R_below HW.out hb); replace HV := Aside0.mk (Kd.R_below HV.out hb); replace E := Aside0.mk (E.out.below hb); clear hb; obtain ⟨hz0, hz1, hz2, hz3, hz4⟩ := c5_ E.out.c1; obtain ⟨fz0, fz1, fz2, fz3, fz4⟩ := f5_ E.out.c1; obtain ⟨hy0, hy1, hy2, hy3, hy4⟩ := c5_ E.out.c2; obtain ⟨fy0, fy1, fy2, fy3, fy4⟩ := f5_ E.out.c2; obtain ⟨hx0, hx1, hx2, hx3, hx4⟩ := c5_ E.out.c3)
    | ((with_reducible refine gate_callee (f := 9) rfl ?_); refine gL_ 48 Tryz.func9 #[.agg #[.int .i64 kind, .string P, .slice A ps.length c, .string b, .string (⟨#[]⟩ : ByteArray)]] ?_; (with_reducible refine (Jd.calls kr kind P A c ps b (⟨#[]⟩ : ByteArray) true _ ?s1 HL.out HRr.out).mono ?_); (case s1 => exact Kd.C_below HR.out ((E.out.set 1 (.string P) rfl).set 4 (.string (⟨#[]⟩ : ByteArray)) rfl).B); rintro e w13 ⟨rfl, hb⟩; refine ⟨_, rfl, ?_⟩; clear hx0 hx1 hx2 hx3 hx4 hy0 hy1 hy2 hy3 hy4 fy0 fy1 fy2 fy3 fy4 hz0 hz1 hz2 hz3 hz4 fz0 fz1 fz2 fz3 fz4; replace HW := Aside0.mk (Kd.R_below ((E.out.set 1 (.string P) rfl).row ((KeepBut.refl _ _ none).set_ 4 (.string (⟨#[]⟩ : ByteArray))) (E.out.row ((KeepBut.refl _ _ none).set_ 1 (.string P)) HW.out)) hb); replace HV := Aside0.mk (Kd.R_below ((E.out.set 1 (.string P) rfl).row ((KeepBut.refl _ _ none).set_ 4 (.string (⟨#[]⟩ : ByteArray))) (E.out.row ((KeepBut.refl _ _ none).set_ 1 (.string P)) HV.out)) hb); replace E := Aside0.mk (show EL _ _ _ w13 _ _ _ _ ((gw, #[.int .i64 kind, .string P, .slice A ps.length c, .string b, .string (⟨#[]⟩ : ByteArray)]) :: _) from ((E.out.set 1 (.string P) rfl).set 4 (.string (⟨#[]⟩ : ByteArray)) rfl).below hb); clear hb; obtain ⟨hz0, hz1, hz2, hz3, hz4⟩ := c5_ E.out.c1; obtain ⟨fz0, fz1, fz2, fz3, fz4⟩ := f5_ E.out.c1; obtain ⟨hy0, hy1, hy2, hy3, hy4⟩ := c5_ E.out.c2; obtain ⟨fy0, fy1, fy2, fy3, fy4⟩ := f5_ E.out.c2; obtain ⟨hx0, hx1, hx2, hx3, hx4⟩ := c5_ E.out.c3)
    | ((with_reducible refine gate_callee (f := 10) rfl ?_); refine gL_ 72 Tryz.func10 #[.agg #[.int .i64 kind, .string P, .slice A ps.length c, .string b, .string (⟨#[]⟩ : ByteArray)]] ?_; (with_reducible refine (J3.calls kc kind P A c ps b (⟨#[]⟩ : ByteArray) m _ ?s1 HL.out HCc.out).mono ?_); (case s1 => exact Kd.C_below HR.out E.out.B); rintro e w14 ⟨rfl, hb⟩; refine ⟨_, rfl, ?_⟩; clear hx0 hx1 hx2 hx3 hx4 hy0 hy1 hy2 hy3 hy4 fy0 fy1 fy2 fy3 fy4 hz0 hz1 hz2 hz3 hz4 fz0 fz1 fz2 fz3 fz4; replace HW := Aside0.mk (Kd.R_below HW.out hb); replace HV := Aside0.mk (Kd.R_below HV.out hb); replace E := Aside0.mk (E.out.below hb); clear hb; obtain ⟨hz0, hz1, hz2, hz3, hz4⟩ := c5_ E.out.c1; obtain ⟨fz0, fz1, fz2, fz3, fz4⟩ := f5_ E.out.c1; obtain ⟨hy0, hy1, hy2, hy3, hy4⟩ := c5_ E.out.c2; obtain ⟨fy0, fy1, fy2, fy3, fy4⟩ := f5_ E.out.c2; obtain ⟨hx0, hx1, hx2, hx3, hx4⟩ := c5_ E.out.c3)
    | (go_at_call 18; (with_reducible refine (Jr.calls ks sd 1 0 m S _ HSs.out).mono ?_); rintro e w15 ⟨rfl, hb⟩; clear hx0 hx1 hx2 hx3 hx4 hy0 hy1 hy2 hy3 hy4 fy0 fy1 fy2 fy3 fy4 hz0 hz1 hz2 hz3 hz4 fz0 fz1 fz2 fz3 fz4; replace HW := Aside0.mk (Kd.R_below HW.out hb); replace HV := Aside0.mk (Kd.R_below HV.out hb); replace E := Aside0.mk (E.out.below hb); clear hb; have nq1 : (gg = gw) = False := eq_false (show gg ≠ gw from E.out.ne2.symm); have nq2 : (gw = gg) = False := eq_false (show gw ≠ gg from E.out.ne2); obtain ⟨hz0, hz1, hz2, hz3, hz4⟩ := c5_ E.out.c1; obtain ⟨fz0, fz1, fz2, fz3, fz4⟩ := f5_ E.out.c1; obtain ⟨hy0, hy1, hy2, hy3, hy4⟩ := c5_ E.out.c2; obtain ⟨fy0, fy1, fy2, fy3, fy4⟩ := f5_ E.out.c2; obtain ⟨hx0, hx1, hx2, hx3, hx4⟩ := c5_ E.out.c3)
    | (go_at_call 16; (with_reducible refine (Jk.calls km kind P Av cv ps b S kind P A c ps b S true _ ?s1 ?s2 ?s3 HL.out HSm.out).mono ?_); (case s1 => exact (Kd.R_reads' (E.out.row ((KeepBut.refl _ _ none).set_ 4 (.string S)) HV.out)).2.2); (case s2 => exact (Kd.R_reads' HV.out).2.1); (case s3 => exact Kd.C_below HR.out (E.out.set 4 (.string S) rfl).B); rintro e w16 ⟨rfl, hb⟩; clear hx0 hx1 hx2 hx3 hx4 hy0 hy1 hy2 hy3 hy4 fy0 fy1 fy2 fy3 fy4 hz0 hz1 hz2 hz3 hz4 fz0 fz1 fz2 fz3 fz4; replace HW := Aside0.mk (Kd.R_below (E.out.row ((KeepBut.refl _ _ none).set_ 4 (.string S)) HW.out) hb); replace HV := Aside0.mk (Kd.R_below (E.out.row ((KeepBut.refl _ _ none).set_ 4 (.string S)) HV.out) hb); replace E := Aside0.mk (show EL _ _ _ w16 _ _ _ _ ((gw, #[.int .i64 kind, .string P, .slice A ps.length c, .string b, .string S]) :: _) from (E.out.set 4 (.string S) rfl).below hb); clear hb; obtain ⟨hz0, hz1, hz2, hz3, hz4⟩ := c5_ E.out.c1; obtain ⟨fz0, fz1, fz2, fz3, fz4⟩ := f5_ E.out.c1; obtain ⟨hy0, hy1, hy2, hy3, hy4⟩ := c5_ E.out.c2; obtain ⟨fy0, fy1, fy2, fy3, fy4⟩ := f5_ E.out.c2; obtain ⟨hx0, hx1, hx2, hx3, hx4⟩ := c5_ E.out.c3)
    | (go_at_call 17; refine (used (lv pub) g sd 1 1 W _ E.out.I (by decide) (by decide)).mono ?_; rintro e w17 ⟨rfl, hw⟩; have hw := hw.symm; subst hw)
    | (go_at_call 11; (with_reducible refine (Ui.calls kk kind P Av cv ps b S 0 _ ?s1 ?s2 (Kd.C_below HG.out E.out.B) HCk.out).mono ?_); (case s1 => exact (Kd.R_reads' HV.out).2.2); (case s2 => exact (Kd.R_reads' HV.out).2.1); rintro e w18 ⟨rfl, hb⟩; clear hx0 hx1 hx2 hx3 hx4 hy0 hy1 hy2 hy3 hy4 fy0 fy1 fy2 fy3 fy4 hz0 hz1 hz2 hz3 hz4 fz0 fz1 fz2 fz3 fz4; replace HW := Aside0.mk (Kd.R_below HW.out hb); replace HV := Aside0.mk (Kd.R_below HV.out hb); replace E := Aside0.mk (E.out.below hb); clear hb; obtain ⟨hz0, hz1, hz2, hz3, hz4⟩ := c5_ E.out.c1; obtain ⟨fz0, fz1, fz2, fz3, fz4⟩ := f5_ E.out.c1; obtain ⟨hy0, hy1, hy2, hy3, hy4⟩ := c5_ E.out.c2; obtain ⟨fy0, fy1, fy2, fy3, fy4⟩ := f5_ E.out.c2; obtain ⟨hx0, hx1, hx2, hx3, hx4⟩ := c5_ E.out.c3))
  by_cases hn0 : 0 < ps.length
  rotate_left
  · have q1 : (0 < ps.length) = False := eq_false hn0
    have q2 : ((0 : Int) < (ps.length : Int)) = False := eq_false (by omega)
    have q3 : (ps.length = 0) = True := eq_true (by omega)
    have q4 : ((ps.length : Int) = 0) = True := eq_true (by omega)
    have q5 : ((ps.length : Int) == 0) = true := beq_iff_eq.2 (by omega)
    clear hn0
    go_upto_region 24 with (fail)
    have HB := Aside0.mk E.out.B.drew
    refine sK_ 14 (fun _ => True) [] tab24 bits24 trivial fun hHeld HT_ HW_ => ?_
    generalize w18.drew = w20 at HB hHeld ⊢
    refine runs_ [(0, some 100), (1, some 101), (2, some 102), (3, some 103), (4, some 104), (5, some 105), (6, some 106), (7, some 107), (8, some 108), (9, some 109), (10, some 110), (11, some 111), (12, some 112), (13, some 6)] ?_
    (iterate 4 (refine pL_ ?_)); (iterate 8 (refine uL_ ?_)); (iterate 2 (refine pL_ ?_)); refine runsE_ ?_
    refine dK_ ?_
    go_wp2
    go_ret
    exact ⟨rfl, HB.out⟩
  · obtain ⟨gr, cr, e_, h1, h2, cl, h3⟩ := Kd.R_form HV.out hn0
    injection e_ with ea en ec
    subst ea ec
    obtain ⟨hv0, fv0⟩ := Kd.R_celln ByteArray.empty HV.out 0 (by decide) (by omega)
    rw [show ((0 : Int)).toNat = 0 from rfl] at hv0 fv0
    have q1 : (0 < ps.length) = True := eq_true hn0
    have q2 : ((0 : Int) < (ps.length : Int)) = True := eq_true (by omega)
    have q3 : (ps.length = 0) = False := eq_false (by omega)
    have q4 : ((ps.length : Int) = 0) = False := eq_false (by omega)
    have q5 : ((ps.length : Int) == 0) = false := beq_eq_false_iff_ne.2 (by omega)
    have hgE := E.out.H
    have hgK := E.out.K.1
    have h6 := E.out.B.size
    have hB := Aside0.mk (E.out.B.setCell (p := ⟨gr, 0, none⟩) (show W.heap.size ≤ gr by have := HG6.out; omega) (.string ⟨#[115, 112, 111, 105, 108, 116]⟩))
    have hX := Aside0.mk (blk_far E.out.c3 (p := ⟨gr, 0, none⟩) (blk_ne E.out.c3 h3 (by decide)) (.string ⟨#[115, 112, 111, 105, 108, 116]⟩))
    have hW := Aside0.mk (Kd.R_far (p := ⟨gr, 0, none⟩) HW.out (fun k hk e => by have := hk.1; have e2 : k = gr := e; omega) (.string ⟨#[115, 112, 111, 105, 108, 116]⟩))
    have HQ := Aside0.mk hn0
    clear hn0 h1 h2 h3 h6 hgE hgK en
    go_upto_region 24 with (first
      | ((with_reducible refine gate_store (t := 9) (p := 99) rfl ?_); refine store_event (t := 9) (p := 99) (v := ?vo99) (w1 := w18.setCell ⟨gr, 0, none⟩ (.string ⟨#[115, 112, 111, 105, 108, 116]⟩)) ?hg ?ho ?hn ?hr ?_; (case ho => rfl); (case hg => rfl); (case hn => rfl); (case hr => exact gr_); intro w19 hw; rw [← hw] at hB hX hW; clear hw))
    clear hv0 fv0 nq1 nq2
    clear hx0 hx1 hx2 hx3 hx4 hy0 hy1 hy2 hy3 hy4 fy0 fy1 fy2 fy3 fy4 hz0 hz1 hz2 hz3 hz4 fz0 fz1 fz2 fz3 fz4
    obtain ⟨ad, ea, hp0⟩ := Kd.at_string (Kd.C_below HR.out hB.out) 0 (by decide) (by have := HQ.out; omega)
    obtain ⟨aw, ew, hw0⟩ := Kd.at_string (Kd.R_reads' hW.out).2.2 0 (by decide) (by have := HQ.out; omega)
    obtain ⟨hx0, hx1, hx2, hx3, hx4⟩ := c5_ hX.out
    rw [show ((0 : Int)).toNat = 0 from rfl, add0_] at hp0 hw0
    subst ea ew
    generalize rdOf ByteArray.empty ps 0 = x at hp0 hw0
    have HB := Aside0.mk hB.out.drew
    clear HW HV E hB hX hW HR
    refine sK_ 14 (fun w' => w'.cell? ⟨gb, 2, none⟩ = some (.slice (some ad) ps.length c) ∧ w'.cell? ad = some (.string x) ∧ w'.cell? aw = some (.string x)) [] tab24 bits24 ⟨hx2, hp0, hw0⟩ fun hHeld HT_ HW_ => ?_
    generalize w19.drew = w20 at HB hHeld ⊢
    refine runs_ [(0, some 100), (1, some 101), (2, some 102), (3, some 103), (4, some 104), (5, some 105), (6, some 106), (7, some 107), (8, some 108), (9, some 109), (10, some 110), (11, some 111), (12, some 112), (13, some 6)] ?_
    (iterate 5 (refine pL_ ?_)); refine tL_ ?_; refine pL_ ?_; refine tL_ ?_; (iterate 2 (refine pL_ ?_)); refine tL_ ?_; (iterate 3 (refine pL_ ?_)); refine runsE_ ?_
    refine dK_ ?_
    go_wp2
    go_ret
    exact ⟨by first | rfl | (refine congrArg Ending.returned ?_; simp), HB.out⟩
set_option maxRecDepth 100000 in
set_option maxHeartbeats 6400000 in
theorem hand_EventSigns (kind : Int) (a : ByteArray) (A : Option Addr) (c : Nat) (ps : List ByteArray) (b s sd : ByteArray) (sp : Bool) (W : World) (_w0 : (Lit.int .i64 kind).wf = true) (_y : ps.length ≤ 9223372036854775807) (_w1 : sd.size ≤ 140737488351232) (hr : Kd.C Kd.string W A ps.length ps) (hc : ps.length ≤ c) (hG : Keys W) :
    Calls Tryz.prog 4 #[.agg #[.int .i64 kind, .string a, .slice A ps.length c, .string b, .string s], .string sd, .bool sp] W fun e w' => e = .returned (.bool true) ∧ Below W.heap.size W w' := by
  obtain ⟨gt, hgt⟩ := great_ev kind a ps b s
  obtain ⟨k0, hk⟩ := hgt.get
  by_cases h : gt = true ∨ (gt = false ∧ 300 < sd.size)
  · exact signs_rest kind a A c ps b s sd sp W hr hc hG k0 gt hk h
  · obtain rfl : gt = false := by cases gt; rfl; exact absurd (.inl rfl) h
    have hs : sd.size ≤ 300 := by have : ¬ 300 < sd.size := fun e => h (.inr ⟨rfl, e⟩); omega
    cases hR : rightB kind (pubK sd 1) ps b ⟨#[]⟩
    · exact signs_form kind a A c ps b s sd sp W hr hc hG hs hgt hR
    · cases sp
      · exact signs_ok kind a A c ps b s sd W hr hc hG hs hgt hR
      · exact signs_spent kind a A c ps b s sd W hr hc hG hs hgt hR
end Go.Proofs.YtdodghifojkclaaGreatDoor.KeyO
