/-
  EventTurned: a signed event of which the content is another right one isn't signed, or it is excused.
  Conditions: none of our own.
-/
import Derived.Test.YtdodghifojkclaaGreatDoorKeyE
import Derived.Test.YtdodghifojkclaaGreatDoorKeyS
import Derived.Test.YtdodghifojkclaaGreatDoorEvt
import Derived.Test.YtdodghifojkclaaGreatDoorBno
import Derived.Test.YtdodghifojkclaaGreatDoorPPx3
namespace Go.Proofs.YtdodghifojkclaaGreatDoor.KeyO
open Go.RowKit Go.Proofs.YtdodghifojkclaaGreatDoor.PP Go.Proofs.YtdodghifojkclaaGreatDoorW.PrintWords Go.Proofs.YtdodghifojkclaaGreatDoorW.PrintLast Go.Proofs.YtdodghifojkclaaGreatDoorW.PrintMore Go.Proofs.YtdodghifojkclaaGreatDoor.Oct.Evt
open Go.Proofs.YtdodghifojkclaaGreatDoor.Sha (ifs ifn)
set_option linter.unusedVariables false
set_option linter.unusedSimpArgs false
theorem EL.one {L : ByteArray → Int → List ByteArray} {W W1 : World} {g gb : Nat} {s : ByteArray} {h u : Int} {cs : Array Value} (hI : IsKey L W W1 g s h u) (hB : Below W.heap.size W W1) (hx : W1.heap[gb]? = some (.cells cs 24 (0, 0))) (hg : W.heap.size ≤ gb) : EL L W W W1 g s h u [(gb, cs)] :=
  ⟨hI, hB, KeepBut.of_below hB g none, fun p hp => by rw [List.mem_singleton.1 hp]; exact ⟨hg, hx⟩, List.pairwise_singleton _ _, Nat.le_refl _⟩
theorem right_sig {kind : Int} {a : ByteArray} {ps : List ByteArray} {b s : ByteArray} (h : rightB kind a ps b ⟨#[]⟩ = true) (hs : s.size ≤ 65535) : rightB kind a ps b s = true := by
  unfold rightB tailB at h ⊢
  simp only [Bool.and_eq_true] at h ⊢
  exact ⟨h.1, ⟨h.2.1, decide_eq_true hs⟩⟩
/-- What two events hold. -/
abbrev Two (g g2 : Nat) (x0 x1 x2 x3 x4 y0 y1 y2 y3 y4 : Value) (w : World) : Prop :=
  w.cell? ⟨g, 0, none⟩ = some x0 ∧ w.cell? ⟨g, 1, none⟩ = some x1 ∧ w.cell? ⟨g, 2, none⟩ = some x2 ∧ w.cell? ⟨g, 3, none⟩ = some x3 ∧ w.cell? ⟨g, 4, none⟩ = some x4 ∧
  w.cell? ⟨g2, 0, none⟩ = some y0 ∧ w.cell? ⟨g2, 1, none⟩ = some y1 ∧ w.cell? ⟨g2, 2, none⟩ = some y2 ∧ w.cell? ⟨g2, 3, none⟩ = some y3 ∧ w.cell? ⟨g2, 4, none⟩ = some y4
theorem EL.two {L : ByteArray → Int → List ByteArray} {w0 w W : World} {g g1 g2 : Nat} {s : ByteArray} {h u : Int} {x0 x1 x2 x3 x4 y0 y1 y2 y3 y4 : Value} {l : List (Nat × Array Value)} (k : EL L w0 w W g s h u ((g1, #[x0, x1, x2, x3, x4]) :: (g2, #[y0, y1, y2, y3, y4]) :: l)) : Two g1 g2 x0 x1 x2 x3 x4 y0 y1 y2 y3 y4 W := by
  obtain ⟨a0, a1, a2, a3, a4⟩ := c5_ k.c1
  obtain ⟨b0, b1, b2, b3, b4⟩ := c5_ k.c2
  exact ⟨a0, a1, a2, a3, a4, b0, b1, b2, b3, b4⟩
section
variable {P : Program} {md : Region.Mode} {ops : Array Oper} {Q : Exit → Act → World → Prop} {S : World → Prop} {ds : List Nat}
/-- An operation that is not wanted. -/
theorem uL_ {i : Nat} {N : Option Tmp} {L : List (Nat × Option Tmp)} {oi : Oper} {fuel : Nat} {l : Array Bool} {a : Act} {w : World} {a' : Act} (h : wpL L P md ops Q S ds fuel (l.setIfInBounds i true) a' w)
    (hi : ops[i]? = some oi := by exact rfl) (hN : oi.dst = N := by exact rfl) (hc : anyB md ops l (l.setIfInBounds i true) i = true := by exact any_of HT_.out (by kernel_rfl))
    (hy : Region.wanted oi (yielded ops a.tmps) = false := by rfl) (ha : a.put N undef = a' := by simp only [pr_]; rfl)
    (hQ : ∀ c a w, Q (.panic c) (a.put oi.dst undef) w → Q (.panic c) a w := by exact fun _ _ _ h => h) : wpL ((i, N) :: L) P md ops Q S ds (fuel + 1) l a w := pureL_ hi hN hc (.inr ⟨hy, rfl⟩) ha h hQ
end
/-- The plain law. -/
theorem turned_law (a0 a3 a4 S : ByteArray) (hm : a3.size ≤ 2000) (hm4 : a4.size ≤ 2000) (hS : sigK a0 0 0 a3 = S) :
    ∃ (b : Bool) (r1 r2 r : List ByteArray), Sha.Ev (fun k => Uf.f k (pubK a0 0) a3 S) (true, r1) ∧ Sha.Ev (fun k => Us.f k (pubK a0 0) a4 S) b ∧ Sha.Ev (fun k => Uf.f k (pubK a0 0) a4 S) (b, r2) ∧
      U0.f r1 r2 = some r ∧ (a4 ≠ a3 → b = true → Sha.Ev (fun k => Uq.f k r S) true) := by
  have hz := sigK_size a0 0 0 (by decide) (by decide) a3
  have eS := parts_sig a0 0 0 (by decide) (by decide) (by decide) (by decide) a3
  have hv := verify_sig a0 0 0 (by decide) (by decide) (by decide) (by decide) a3 hm
  rw [hS] at hz eS hv
  have hz2 : S.size ≤ 100000 := by rw [hz]; decide
  have vS := Sha.verify_way (pubK a0 0) a3 S (by omega) hz2 0 _ _ eS
  have vT := Sha.verify_way (pubK a0 0) a4 S (by omega) hz2 0 _ _ eS
  obtain ⟨n1, n2, n3, n4, n5, n6, _⟩ := Oct.Evt.parts5_ok eS
  generalize valsK a0 0 a3 = vs at *
  generalize pathK a0 0 0 = ps at *
  have e1 := Sha.Ev.inj vS.1 hv
  rw [e1] at vS
  have e2 := (Oct.toList_eq _ _).1 (eq_of_beq e1)
  obtain ⟨w1, w2⟩ := Sha.way_ok a3 (by omega) 0 vs ps n3 n5 (by omega) n6
  obtain ⟨w3, w4⟩ := Sha.way_ok a4 (by omega) 0 vs ps n3 n5 (by omega) n6
  refine ⟨_, _, _, Sha.way a3 0 vs ps ++ Sha.way a4 0 vs ps, vS.2, vT.1, vT.2, ?_, fun hn hb => ?_⟩
  · unfold U0.f
    simp only [List.nil_append, Option.bind_some, List.length_nil]
    rw [if_pos (by omega), if_pos (by omega)]
  · have e3 := (Oct.toList_eq _ _).1 (eq_of_beq hb)
    exact Sha.other_excused a3 a4 S (fun e => hn e.symm) (by omega) (by omega) (by omega) 0 vs ps eS (e2.trans e3.symm)
def T10 : Bool × List (List Nat × List Nat) := (true, [([], []), ([0], [0]), ([1], [1]), ([2, 1], [2]), ([3], [3]), ([4, 3, 3], [3, 4]), ([3], [3]), ([6, 5, 3], [3, 6]), ([5, 7, 3], [3, 5, 7]), ([3, 8], [3, 8]), ([9, 7], [9]), ([10], [10]), ([11, 10, 10], [10, 11]), ([12, 10], [10, 12]), ([10, 13], [10, 13])])
def B10 : List Nat := [0, 1, 3, 7, 15, 31, 15, 127, 255, 511, 1023, 2047, 4095, 8191, 16383]
theorem tab10 : rtab .any (opsOf Tryz.f3 10) = T10 := by kernel_rfl
theorem bits10 : waitsOk T10.2 B10 = true := by kernel_rfl
def T12 : Bool × List (List Nat × List Nat) := (true, [([], []), ([0], [0]), ([], []), ([2], [2]), ([], []), ([4], [4]), ([1, 3, 5, 3], [1, 3, 5]), ([6], [6]), ([7], [7]), ([7], [7]), ([8, 6, 0, 1, 2, 3, 4, 5, 6, 7, 8], [8]), ([9, 10, 0, 1, 2, 3, 4, 5, 6, 7, 8, 9, 10], [9])])
def B12 : List Nat := [0, 1, 0, 4, 0, 16, 63, 127, 255, 255, 511, 2047]
theorem tab12 : rtab .any (opsOf Tryz.f3 12) = T12 := by kernel_rfl
theorem bits12 : waitsOk T12.2 B12 = true := by kernel_rfl
theorem tab13 : rtab .any (opsOf Tryz.f3 13) = T12 := by kernel_rfl
def T14 : Bool × List (List Nat × List Nat) := (true, [([], []), ([0], [0]), ([1], [1]), ([2, 1], [2]), ([3], [3]), ([3], [3]), ([4, 5, 3, 3], [3, 4, 5]), ([3], [3]), ([7, 3], [3, 7]), ([6, 8, 6, 3], [3, 6, 8]), ([3, 9], [3, 9]), ([10, 9, 0, 1, 2, 3, 4, 5, 6, 7, 8, 9, 10], [10])])
def B14 : List Nat := [0, 1, 3, 7, 15, 15, 63, 15, 143, 511, 1023, 2047]
theorem tab14 : rtab .any (opsOf Tryz.f3 14) = T14 := by kernel_rfl
theorem bits14 : waitsOk T14.2 B14 = true := by kernel_rfl
set_option maxRecDepth 100000 in
set_option maxHeartbeats 6400000 in
theorem turned_rest (kind : Int) (a : ByteArray) (A : Option Addr) (c : Nat) (ps : List ByteArray) (b s sd body : ByteArray) (kd : Int) (W : World) (hr : Kd.C Kd.string W A ps.length ps) (hc : ps.length ≤ c) (hG : Keys W) (k0 : Nat) (gt : Bool) (hGr : Ji.f k0 kind a ps b s = some gt) (h : gt = true ∨ (gt = false ∧ (300 < sd.size ∨ (¬ 300 < sd.size ∧ 500 < body.size)))) :
    Calls Tryz.prog 3 #[.agg #[.int .i64 kind, .string a, .slice A ps.length c, .string b, .string s], .string sd, .string body, .int .i64 kd] W fun e w' => e = .returned (.bool true) ∧ Below W.heap.size W w' := by
  obtain ⟨ka, hA⟩ := awake_ev.get
  have HA := Aside0.mk hA
  have HG := Aside0.mk hG
  have HR := Aside0.mk hr
  have HL := Aside0.mk hc
  have HGr := Aside0.mk hGr
  clear hA hG hr hc hGr
  rcases h with rfl | ⟨rfl, h | ⟨h0, h⟩⟩
  rotate_left
  have p1 : ((sd.size : Int) > 300) = True := eq_true (by omega)
  have p2 : (300 < sd.size) = True := eq_true h
  have p3 : (300 < (sd.size : Int)) = True := eq_true (by omega)
  clear h
  rotate_left
  have p1 : ((sd.size : Int) > 300) = False := eq_false (by omega)
  have p2 : (300 < sd.size) = False := eq_false h0
  have p3 : (300 < (sd.size : Int)) = False := eq_false (by omega)
  have p4 : ((body.size : Int) > 500) = True := eq_true (by omega)
  have p5 : (500 < body.size) = True := eq_true h
  have p6 : (500 < (body.size : Int)) = True := eq_true (by omega)
  clear h h0
  all_goals
    go_enter Tryz.func3, Tryz.ntmps3
    go_wp2_with (first
      | ((with_reducible refine gate_dst (N := 4) rfl ?_); refine box_event ?hg (N := 4) ?hd (cs := #[.int .i64 kind, .string a, .slice A ps.length c, .string b, .string s]) (t := 24) ?hr ?_; (case hd => rfl); (case hg => rfl); (case hr => exact gr_); intro gb hg w1 hbox hb; have HB := Aside0.mk hb; have GB := Aside0.mk hg; have BX := Aside0.mk hbox; clear hg hbox hb; obtain ⟨hx0, hx1, hx2, hx3, hx4⟩ := c5_ BX.out)
      | ((with_reducible refine gate_callee (f := 5) rfl ?_); refine gL_ 18 Tryz.func5 #[.agg #[.int .i64 kind, .string a, .slice A ps.length c, .string b, .string s]] ?_; (with_reducible refine (Ji.calls k0 kind a A c ps b s _ _ ?s1 HL.out HGr.out).mono ?_); (case s1 => exact Kd.C_below HR.out HB.out); rintro e w2 ⟨rfl, hb⟩; refine ⟨_, rfl, ?_⟩; clear hx0 hx1 hx2 hx3 hx4; replace BX := Aside0.mk (blk_below BX.out hb); replace HB := Aside0.mk (below_step HB.out hb); clear hb; obtain ⟨hx0, hx1, hx2, hx3, hx4⟩ := c5_ BX.out)
      | (go_at_call 6; (with_reducible refine (J8.calls ka true _ (Kd.C_below HG.out HB.out) HA.out).mono ?_); rintro e w3 ⟨rfl, hb⟩; clear hx0 hx1 hx2 hx3 hx4; replace BX := Aside0.mk (blk_below BX.out hb); replace HB := Aside0.mk (below_step HB.out hb); clear hb; obtain ⟨hx0, hx1, hx2, hx3, hx4⟩ := c5_ BX.out))
    go_ret
    exact ⟨rfl, HB.out⟩
set_option maxRecDepth 100000 in
set_option maxHeartbeats 6400000 in
theorem turned_form (kind : Int) (a : ByteArray) (A : Option Addr) (c : Nat) (ps : List ByteArray) (b s sd body : ByteArray) (kd : Int) (W : World) (hr : Kd.C Kd.string W A ps.length ps) (hc : ps.length ≤ c) (hG : Keys W) (hs : sd.size ≤ 300) (hbo : body.size ≤ 500) (hE : Sha.Ev (fun k => Ji.f k kind a ps b s) false) (hRt : rightB kind (pubK sd 0) ps b ⟨#[]⟩ = false) :
    Calls Tryz.prog 3 #[.agg #[.int .i64 kind, .string a, .slice A ps.length c, .string b, .string s], .string sd, .string body, .int .i64 kd] W fun e w' => e = .returned (.bool true) ∧ Below W.heap.size W w' := by
  obtain ⟨ka, hA⟩ := awake_ev.get
  have HA := Aside0.mk hA
  have HG := Aside0.mk hG
  have HR := Aside0.mk hr
  have HL := Aside0.mk hc
  obtain ⟨P, hP⟩ : ∃ P, pubK sd 0 = P := ⟨_, rfl⟩
  rw [hP] at hRt
  obtain ⟨k0, hGr⟩ := hE.get
  have HGr := Aside0.mk hGr
  have HP := Aside0.mk hP
  have HS := Aside0.mk hs
  have p1 : ((sd.size : Int) > 300) = False := eq_false (by omega)
  have p2 : (300 < sd.size) = False := eq_false (by omega)
  have p3 : (300 < (sd.size : Int)) = False := eq_false (by omega)
  have p4 : ((body.size : Int) > 500) = False := eq_false (by omega)
  have p5 : (500 < body.size) = False := eq_false (by omega)
  have p6 : (500 < (body.size : Int)) = False := eq_false (by omega)
  have HRt := Aside0.mk (show rightB kind (pubK sd 0) ps b ⟨#[]⟩ = false from by rw [hP]; exact hRt)
  clear hA hG hr hc hP hGr hs hbo hE hRt
  go_enter Tryz.func3, Tryz.ntmps3
  go_wp2_with (first
    | ((with_reducible refine gate_dst (N := 4) rfl ?_); refine box_event ?hg (N := 4) ?hd (cs := #[.int .i64 kind, .string a, .slice A ps.length c, .string b, .string s]) (t := 24) ?hr ?_; (case hd => rfl); (case hg => rfl); (case hr => exact gr_); intro gb hg w1 hbox hb; have HB := Aside0.mk hb; have GB := Aside0.mk hg; have BX := Aside0.mk hbox; clear hg hbox hb; obtain ⟨hx0, hx1, hx2, hx3, hx4⟩ := c5_ BX.out)
    | ((with_reducible refine gate_callee (f := 5) rfl ?_); refine gL_ 18 Tryz.func5 #[.agg #[.int .i64 kind, .string a, .slice A ps.length c, .string b, .string s]] ?_; (with_reducible refine (Ji.calls k0 kind a A c ps b s false _ ?s1 HL.out HGr.out).mono ?_); (case s1 => exact Kd.C_below HR.out HB.out); rintro e w2 ⟨rfl, hb⟩; refine ⟨_, rfl, ?_⟩; clear hx0 hx1 hx2 hx3 hx4; replace BX := Aside0.mk (blk_below BX.out hb); replace HB := Aside0.mk (below_step HB.out hb); clear hb; obtain ⟨hx0, hx1, hx2, hx3, hx4⟩ := c5_ BX.out)
    | (go_at_call 6; (with_reducible refine (J8.calls ka true _ (Kd.C_below HG.out HB.out) HA.out).mono ?_); rintro e w3 ⟨rfl, hb⟩; clear hx0 hx1 hx2 hx3 hx4; replace BX := Aside0.mk (blk_below BX.out hb); replace HB := Aside0.mk (below_step HB.out hb); clear hb; obtain ⟨hx0, hx1, hx2, hx3, hx4⟩ := c5_ BX.out)
    | (go_at_call 7; refine (new_ok (lv pub) sd 0 0 W _ HB.out (by decide) (by decide) (by decide) (by decide)).mono ?_; rintro e w4 ⟨g, rfl, hI, hB, hb, _⟩; clear hx0 hx1 hx2 hx3 hx4; have E := Aside0.mk (EL.one hI hB (blk_below BX.out hb) (Nat.le_of_eq GB.out.symm)); clear hI hB hb; clear BX HB; obtain ⟨hx0, hx1, hx2, hx3, hx4⟩ := c5_ E.out.c1)
    | ((with_reducible refine gate_callee (f := 8) rfl ?_); refine gL_ 39 Tryz.func8 #[.agg #[.int .i64 kind, .string a, .slice A ps.length c, .string b, .string s], .pointer (some ⟨g, 0, none⟩)] ?_; (with_reducible refine (esign_form g sd 0 0 kind a A c ps b s W w4 E.out.I E.out.B HS.out HG.out HR.out HL.out HRt.out).mono ?_); rintro e w7 ⟨rfl, hI, hB, hK⟩; refine ⟨_, rfl, ?_⟩; clear hx0 hx1 hx2 hx3 hx4; replace E := Aside0.mk (E.out.step hI hB hK); clear hI hB hK; obtain ⟨hx0, hx1, hx2, hx3, hx4⟩ := c5_ E.out.c1)
    | ((with_reducible refine gate_dst (N := 10) rfl ?_); refine box_event ?hg (N := 10) ?hd (cs := #[.int .i64 0, .string (⟨#[]⟩ : ByteArray), .slice none 0 0, .string (⟨#[]⟩ : ByteArray), .string (⟨#[]⟩ : ByteArray)]) (t := 24) ?hr ?_; (case hd => rfl); (case hg => rfl); (case hr => exact gr_); intro gg hg w8 hbox hb; clear hx0 hx1 hx2 hx3 hx4; replace E := Aside0.mk (E.out.new hb hbox hg); clear hg hbox hb; obtain ⟨hy0, hy1, hy2, hy3, hy4⟩ := c5_ E.out.c1; obtain ⟨fy0, fy1, fy2, fy3, fy4⟩ := f5_ E.out.c1; obtain ⟨hx0, hx1, hx2, hx3, hx4⟩ := c5_ E.out.c2)
    | ((with_reducible refine gate_store (t := 24) (p := 10) rfl ?_); refine store_event (t := 24) (p := 10) (v := ?vo10) (w1 := w8.setCells gg 0 [.int .i64 0, .string (⟨#[]⟩ : ByteArray), .slice none 0 0, .string (⟨#[]⟩ : ByteArray), .string (⟨#[]⟩ : ByteArray)]) ?hg ?ho ?hn ?hr ?_; (case ho => rfl); (case hg => rfl); (case hn => rfl); (case hr => exact ev_store 0 (⟨#[]⟩ : ByteArray) none 0 0 (⟨#[]⟩ : ByteArray) (⟨#[]⟩ : ByteArray) rfl rfl rfl (by kernel_rfl) E.out.c1 rfl); intro w9 hw; clear hx0 hx1 hx2 hx3 hx4 hy0 hy1 hy2 hy3 hy4 fy0 fy1 fy2 fy3 fy4; replace E := Aside0.mk (show EL _ _ _ w9 _ _ _ _ ((gg, #[.int .i64 0, .string (⟨#[]⟩ : ByteArray), .slice none 0 0, .string (⟨#[]⟩ : ByteArray), .string (⟨#[]⟩ : ByteArray)]) :: _) from by rw [hw]; exact E.out.put _ rfl); clear hw; obtain ⟨hy0, hy1, hy2, hy3, hy4⟩ := c5_ E.out.c1; obtain ⟨fy0, fy1, fy2, fy3, fy4⟩ := f5_ E.out.c1; obtain ⟨hx0, hx1, hx2, hx3, hx4⟩ := c5_ E.out.c2))
  go_ret
  exact ⟨rfl, E.out.B⟩
set_option maxRecDepth 100000 in
set_option maxHeartbeats 6400000 in
theorem turned_ok (kind : Int) (a : ByteArray) (A : Option Addr) (c : Nat) (ps : List ByteArray) (b s sd body : ByteArray) (kd : Int) (W : World) (hr : Kd.C Kd.string W A ps.length ps) (hc : ps.length ≤ c) (hG : Keys W) (hs : sd.size ≤ 300) (hbo : body.size ≤ 500) (hE : Sha.Ev (fun k => Ji.f k kind a ps b s) false) (hRt : rightB kind (pubK sd 0) ps b ⟨#[]⟩ = true) :
    Calls Tryz.prog 3 #[.agg #[.int .i64 kind, .string a, .slice A ps.length c, .string b, .string s], .string sd, .string body, .int .i64 kd] W fun e w' => e = .returned (.bool true) ∧ Below W.heap.size W w' := by
  obtain ⟨ka, hA⟩ := awake_ev.get
  have HA := Aside0.mk hA
  have HG := Aside0.mk hG
  have HR := Aside0.mk hr
  have HL := Aside0.mk hc
  obtain ⟨P, hP⟩ : ∃ P, pubK sd 0 = P := ⟨_, rfl⟩
  rw [hP] at hRt
  obtain ⟨k0, hGr⟩ := hE.get
  have HGr := Aside0.mk hGr
  have HP := Aside0.mk hP
  have HS := Aside0.mk hs
  have p1 : ((sd.size : Int) > 300) = False := eq_false (by omega)
  have p2 : (300 < sd.size) = False := eq_false (by omega)
  have p3 : (300 < (sd.size : Int)) = False := eq_false (by omega)
  have p4 : ((body.size : Int) > 500) = False := eq_false (by omega)
  have p5 : (500 < body.size) = False := eq_false (by omega)
  have p6 : (500 < (body.size : Int)) = False := eq_false (by omega)
  have HRt := Aside0.mk (show rightB kind (pubK sd 0) ps b ⟨#[]⟩ = true from by rw [hP]; exact hRt)
  obtain ⟨_, _, _, n8, n2, _, _⟩ := right_has hRt
  have hz := cont_size hRt
  obtain ⟨m, hm⟩ : ∃ m, cont kind P ps b = m := ⟨_, rfl⟩
  obtain ⟨S, hS⟩ : ∃ S, sigK sd 0 0 m = S := ⟨_, rfl⟩
  have hsz : S.size ≤ 65535 := by rw [← hS, sigK_size sd 0 0 (by decide) (by decide) m]; decide
  have hRS := right_sig hRt hsz
  obtain ⟨kc, hCc⟩ := (rcont_ev hRS S).get
  rw [hm] at hCc hz
  have hmz : m.size ≤ 2000 := by omega
  obtain ⟨r2, hr2⟩ : ∃ r2, rightB kd P ps body S = r2 := ⟨_, rfl⟩
  obtain ⟨kr, hRr⟩ := (rright_ev kd P ps body S hr.2.1).get
  rw [hr2] at hRr
  have hl := hr.2.1
  have HCo := Aside0.mk hm
  have HSg := Aside0.mk hS
  have HCc := Aside0.mk hCc
  have HRr := Aside0.mk hRr
  have HM := Aside0.mk hmz
  have HR2 := Aside0.mk hr2
  have HLn := Aside0.mk hl
  clear hA hG hr hc hGr hs hbo hE hRt n8 n2 hz hm hsz hCc hRS hRr hmz hl hP hS hr2
  go_enter Tryz.func3, Tryz.ntmps3
  go_upto_region 10 with (first
    | ((with_reducible refine gate_dst (N := 4) rfl ?_); refine box_event ?hg (N := 4) ?hd (cs := #[.int .i64 kind, .string a, .slice A ps.length c, .string b, .string s]) (t := 24) ?hr ?_; (case hd => rfl); (case hg => rfl); (case hr => exact gr_); intro gb hg w1 hbox hb; have HB := Aside0.mk hb; have GB := Aside0.mk hg; have BX := Aside0.mk hbox; clear hg hbox hb; obtain ⟨hx0, hx1, hx2, hx3, hx4⟩ := c5_ BX.out)
    | ((with_reducible refine gate_callee (f := 5) rfl ?_); refine gL_ 18 Tryz.func5 #[.agg #[.int .i64 kind, .string a, .slice A ps.length c, .string b, .string s]] ?_; (with_reducible refine (Ji.calls k0 kind a A c ps b s false _ ?s1 HL.out HGr.out).mono ?_); (case s1 => exact Kd.C_below HR.out HB.out); rintro e w2 ⟨rfl, hb⟩; refine ⟨_, rfl, ?_⟩; clear hx0 hx1 hx2 hx3 hx4; replace BX := Aside0.mk (blk_below BX.out hb); replace HB := Aside0.mk (below_step HB.out hb); clear hb; obtain ⟨hx0, hx1, hx2, hx3, hx4⟩ := c5_ BX.out)
    | (go_at_call 6; (with_reducible refine (J8.calls ka true _ (Kd.C_below HG.out HB.out) HA.out).mono ?_); rintro e w3 ⟨rfl, hb⟩; clear hx0 hx1 hx2 hx3 hx4; replace BX := Aside0.mk (blk_below BX.out hb); replace HB := Aside0.mk (below_step HB.out hb); clear hb; obtain ⟨hx0, hx1, hx2, hx3, hx4⟩ := c5_ BX.out)
    | (go_at_call 7; refine (new_ok (lv pub) sd 0 0 W _ HB.out (by decide) (by decide) (by decide) (by decide)).mono ?_; rintro e w4 ⟨g, rfl, hI, hB, hb, _⟩; clear hx0 hx1 hx2 hx3 hx4; have E := Aside0.mk (EL.one hI hB (blk_below BX.out hb) (Nat.le_of_eq GB.out.symm)); clear hI hB hb; clear BX HB; obtain ⟨hx0, hx1, hx2, hx3, hx4⟩ := c5_ E.out.c1)
    | ((with_reducible refine gate_callee (f := 8) rfl ?_); refine gL_ 39 Tryz.func8 #[.agg #[.int .i64 kind, .string a, .slice A ps.length c, .string b, .string s], .pointer (some ⟨g, 0, none⟩)] ?_; (with_reducible refine (esign_ok g sd 0 0 kind a A c ps b s W w4 E.out.I E.out.B HS.out HG.out HR.out HL.out (by decide) (by decide) HRt.out).mono ?_); rintro e w7 ⟨vg, rfl, hv, hI, hB, hK⟩; refine ⟨_, rfl, ?_⟩; rw [HP.out, HCo.out, HSg.out]; clear hx0 hx1 hx2 hx3 hx4; have HV := Aside0.mk hv; obtain ⟨Av, cv, eg⟩ := Kd.R_slice HV.out; subst eg; replace E := Aside0.mk (E.out.step hI hB hK); clear hv hI hB hK; obtain ⟨hx0, hx1, hx2, hx3, hx4⟩ := c5_ E.out.c1)
    | ((with_reducible refine gate_dst (N := 10) rfl ?_); refine box_event ?hg (N := 10) ?hd (cs := #[.int .i64 0, .string (⟨#[]⟩ : ByteArray), .slice none 0 0, .string (⟨#[]⟩ : ByteArray), .string (⟨#[]⟩ : ByteArray)]) (t := 24) ?hr ?_; (case hd => rfl); (case hg => rfl); (case hr => exact gr_); intro gg hg w8 hbox hb; clear hx0 hx1 hx2 hx3 hx4; replace HV := Aside0.mk (Kd.R_below HV.out hb); replace E := Aside0.mk (E.out.new hb hbox hg); clear hg hbox hb; obtain ⟨hy0, hy1, hy2, hy3, hy4⟩ := c5_ E.out.c1; obtain ⟨fy0, fy1, fy2, fy3, fy4⟩ := f5_ E.out.c1; obtain ⟨hx0, hx1, hx2, hx3, hx4⟩ := c5_ E.out.c2)
    | ((with_reducible refine gate_store (t := 24) (p := 10) rfl ?_); refine store_event (t := 24) (p := 10) (v := ?vo10) (w1 := w8.setCells gg 0 [.int .i64 kind, .string P, .slice Av ps.length cv, .string b, .string S]) ?hg ?ho ?hn ?hr ?_; (case ho => rfl); (case hg => rfl); (case hn => rfl); (case hr => exact ev_store kind P Av ps.length cv b S rfl rfl rfl (by kernel_rfl) E.out.c1 rfl); intro w9 hw; clear hx0 hx1 hx2 hx3 hx4 hy0 hy1 hy2 hy3 hy4 fy0 fy1 fy2 fy3 fy4; replace HV := Aside0.mk (show Kd.R Kd.string 9 w9 _ _ _ _ from by rw [hw]; exact E.out.row (keep_puts _ _ _) HV.out); replace E := Aside0.mk (show EL _ _ _ w9 _ _ _ _ ((gg, #[.int .i64 kind, .string P, .slice Av ps.length cv, .string b, .string S]) :: _) from by rw [hw]; exact E.out.put _ rfl); clear hw; obtain ⟨hy0, hy1, hy2, hy3, hy4⟩ := c5_ E.out.c1; obtain ⟨fy0, fy1, fy2, fy3, fy4⟩ := f5_ E.out.c1; obtain ⟨hx0, hx1, hx2, hx3, hx4⟩ := c5_ E.out.c2)
    | ((with_reducible refine gate_dst (N := 12) rfl ?_); refine box_event ?hg (N := 12) ?hd (cs := #[.int .i64 0, .string (⟨#[]⟩ : ByteArray), .slice none 0 0, .string (⟨#[]⟩ : ByteArray), .string (⟨#[]⟩ : ByteArray)]) (t := 24) ?hr ?_; (case hd => rfl); (case hg => rfl); (case hr => exact gr_); intro gw hg w10 hbox hb; clear hx0 hx1 hx2 hx3 hx4 hy0 hy1 hy2 hy3 hy4 fy0 fy1 fy2 fy3 fy4; replace HV := Aside0.mk (Kd.R_below HV.out hb); replace E := Aside0.mk (E.out.new hb hbox hg); clear hg hbox hb; obtain ⟨hz0, hz1, hz2, hz3, hz4⟩ := c5_ E.out.c1; obtain ⟨fz0, fz1, fz2, fz3, fz4⟩ := f5_ E.out.c1; obtain ⟨hy0, hy1, hy2, hy3, hy4⟩ := c5_ E.out.c2; obtain ⟨fy0, fy1, fy2, fy3, fy4⟩ := f5_ E.out.c2; obtain ⟨hx0, hx1, hx2, hx3, hx4⟩ := c5_ E.out.c3)
    | ((with_reducible refine gate_store (t := 24) (p := 12) rfl ?_); refine store_event (t := 24) (p := 12) (v := ?vo12) (w1 := w10.setCells gw 0 [.int .i64 kind, .string P, .slice Av ps.length cv, .string b, .string S]) ?hg ?ho ?hn ?hr ?_; (case ho => rfl); (case hg => rfl); (case hn => rfl); (case hr => exact ev_store kind P Av ps.length cv b S rfl rfl rfl (by kernel_rfl) E.out.c1 rfl); intro w11 hw; clear hx0 hx1 hx2 hx3 hx4 hy0 hy1 hy2 hy3 hy4 fy0 fy1 fy2 fy3 fy4 hz0 hz1 hz2 hz3 hz4 fz0 fz1 fz2 fz3 fz4; replace HV := Aside0.mk (show Kd.R Kd.string 9 w11 _ _ _ _ from by rw [hw]; exact E.out.row (keep_puts _ _ _) HV.out); replace E := Aside0.mk (show EL _ _ _ w11 _ _ _ _ ((gw, #[.int .i64 kind, .string P, .slice Av ps.length cv, .string b, .string S]) :: _) from by rw [hw]; exact E.out.put _ rfl); clear hw; obtain ⟨hz0, hz1, hz2, hz3, hz4⟩ := c5_ E.out.c1; obtain ⟨fz0, fz1, fz2, fz3, fz4⟩ := f5_ E.out.c1; obtain ⟨hy0, hy1, hy2, hy3, hy4⟩ := c5_ E.out.c2; obtain ⟨fy0, fy1, fy2, fy3, fy4⟩ := f5_ E.out.c2; obtain ⟨hx0, hx1, hx2, hx3, hx4⟩ := c5_ E.out.c3))
  replace HV := Aside0.mk (Kd.R_drew (((E.out.set 3 (.string body) rfl).row ((KeepBut.refl _ _ none).set_ 0 (.int .i64 kd)) (E.out.row ((KeepBut.refl _ _ none).set_ 3 (.string body)) HV.out))))
  replace E := Aside0.mk ((E.out.set 3 (.string body) rfl).set 0 (.int .i64 kd) rfl).drew
  clear hx0 hx1 hx2 hx3 hx4 hy0 hy1 hy2 hy3 hy4 fy0 fy1 fy2 fy3 fy4 hz0 hz1 hz2 hz3 hz4 fz0 fz1 fz2 fz3 fz4
  cases r2
  · clear HCc HCo HSg HM HR2
    refine sK_ 15 (Two gw gg (.int .i64 kd) (.string P) (.slice Av ps.length cv) (.string body) (.string S) (.int .i64 kind) (.string P) (.slice Av ps.length cv) (.string b) (.string S)) [] tab10 bits10 E.out.two fun hHeld HT_ HW_ => ?_
    generalize ((w11.setCell ⟨gw, 3, none⟩ (.string body)).setCell ⟨gw, 0, none⟩ (.int .i64 kd)).drew = wr at E HV hHeld ⊢
    refine runs_ [(0, some 59)] ?_
    refine tL_ ?_; refine runsE_ ?_
    refine oK_ 1 (some 60) fun K hK => ?_
    refine goes_ Tryz.func9 (by kernel_rfl) rfl #[.agg #[.int .i64 kd, .string P, .slice Av ps.length cv, .string body, .string S]] (by rfl) rfl rfl gm1_ ?_
    (with_reducible refine (Je.calls kr kd P Av cv ps body S false _ (Kd.R_reads' HV.out).2.2 (Kd.R_reads' HV.out).2.1 HRr.out).mono ?_)
    rintro e wn ⟨rfl, hb⟩
    refine ⟨_, rfl, ?_⟩
    replace E := Aside0.mk (E.out.below hb)
    replace HV := Aside0.mk (Kd.R_below HV.out hb)
    clear hb
    refine hK.out _ _ E.out.two (fun hHeld => ?_)
    clear hK K
    refine nK_ (some 60) ?_
    refine runs_ [(2, some 61), (3, some 62), (4, some 63), (5, some 64), (6, some 65), (7, some 66), (8, some 67), (9, some 68), (10, some 69), (11, some 70), (12, some 71), (13, some 72), (14, some 73)] ?_
    (iterate 2 (refine pL_ ?_)); (iterate 5 (refine uL_ ?_)); (iterate 2 (refine pL_ ?_)); (iterate 3 (refine uL_ ?_)); refine pL_ ?_; refine runsE_ ?_
    refine dK_ ?_
    go_wp2
    go_ret
    exact ⟨rfl, E.out.B⟩
  · have hr2 := HR2.out
    obtain ⟨_, _, _, _, n3, _, _⟩ := right_has hr2
    have hz2 := cont_size hr2
    obtain ⟨m2, hm2⟩ : ∃ m2, cont kd P ps body = m2 := ⟨_, rfl⟩
    rw [hm2] at hz2
    have hm2z : m2.size ≤ 2000 := by have := (right_has hr2).2.2.2.1; omega
    obtain ⟨kd2, hCd⟩ := (rcont_ev hr2 S).get
    rw [hm2] at hCd
    have HCd := Aside0.mk hCd
    by_cases he : m2 = m
    · subst he
      clear hr2 n3 hz2 hm2 hm2z hCd HR2
      refine sK_ 15 (Two gw gg (.int .i64 kd) (.string P) (.slice Av ps.length cv) (.string body) (.string S) (.int .i64 kind) (.string P) (.slice Av ps.length cv) (.string b) (.string S)) [] tab10 bits10 E.out.two fun hHeld HT_ HW_ => ?_
      generalize ((w11.setCell ⟨gw, 3, none⟩ (.string body)).setCell ⟨gw, 0, none⟩ (.int .i64 kd)).drew = wr at E HV hHeld ⊢
      refine runs_ [(0, some 59)] ?_
      refine tL_ ?_; refine runsE_ ?_
      refine oK_ 1 (some 60) fun K hK => ?_
      refine goes_ Tryz.func9 (by kernel_rfl) rfl #[.agg #[.int .i64 kd, .string P, .slice Av ps.length cv, .string body, .string S]] (by rfl) rfl rfl gm1_ ?_
      (with_reducible refine (Je.calls kr kd P Av cv ps body S true _ (Kd.R_reads' HV.out).2.2 (Kd.R_reads' HV.out).2.1 HRr.out).mono ?_)
      rintro e wn ⟨rfl, hb⟩
      refine ⟨_, rfl, ?_⟩
      replace E := Aside0.mk (E.out.below hb)
      replace HV := Aside0.mk (Kd.R_below HV.out hb)
      clear hb
      refine hK.out _ _ E.out.two (fun hHeld => ?_)
      clear hK K
      refine nK_ (some 60) ?_
      refine runs_ [(2, some 61), (3, some 62), (4, some 63), (6, some 65)] ?_
      (iterate 2 (refine pL_ ?_)); (iterate 2 (refine tL_ ?_)); refine runsE_ ?_
      refine oK_ 5 (some 64) fun K hK => ?_
      refine goes_ Tryz.func10 (by kernel_rfl) rfl #[.agg #[.int .i64 kd, .string P, .slice Av ps.length cv, .string body, .string S]] (by rfl) rfl rfl gm1_ ?_
      (with_reducible refine (Jt.calls kd2 kd P Av cv ps body S m2 _ (Kd.R_reads' HV.out).2.2 (Kd.R_reads' HV.out).2.1 HCd.out).mono ?_)
      rintro e wn ⟨rfl, hb⟩
      refine ⟨_, rfl, ?_⟩
      replace E := Aside0.mk (E.out.below hb)
      replace HV := Aside0.mk (Kd.R_below HV.out hb)
      clear hb
      refine hK.out _ _ E.out.two (fun hHeld => ?_)
      clear hK K
      refine nK_ (some 64) ?_
      refine oK_ 7 (some 66) fun K hK => ?_
      refine goes_ Tryz.func10 (by kernel_rfl) rfl #[.agg #[.int .i64 kind, .string P, .slice Av ps.length cv, .string b, .string S]] (by rfl) rfl rfl gm1_ ?_
      (with_reducible refine (Jt.calls kc kind P Av cv ps b S m2 _ (Kd.R_reads' HV.out).2.2 (Kd.R_reads' HV.out).2.1 HCc.out).mono ?_)
      rintro e wn ⟨rfl, hb⟩
      refine ⟨_, rfl, ?_⟩
      replace E := Aside0.mk (E.out.below hb)
      replace HV := Aside0.mk (Kd.R_below HV.out hb)
      clear hb
      refine hK.out _ _ E.out.two (fun hHeld => ?_)
      clear hK K
      refine nK_ (some 66) ?_
      refine runs_ [(8, some 67), (9, some 68), (10, some 69), (11, some 70), (12, some 71), (13, some 72), (14, some 73)] ?_
      (iterate 3 (refine pL_ ?_)); (iterate 3 (refine uL_ ?_)); refine pL_ ?_; refine runsE_ ?_
      refine dK_ ?_
      go_wp2
      go_ret
      exact ⟨rfl, E.out.B⟩
    · obtain ⟨bv, r1, r3, r, hV1, hV2, hV3, hBo, hEx⟩ := turned_law sd m m2 S HM.out hm2z HSg.out
      rw [HP.out] at hV1 hV2 hV3
      have ne1 : (m2.toList == m.toList) = false := beq_eq_false_iff_ne.2 (fun e => he ((Oct.toList_eq _ _).1 e))
      have ne2 : (m2.toList = m.toList) = False := eq_false (fun e => he ((Oct.toList_eq _ _).1 e))
      obtain ⟨kk, hCk⟩ : ∃ k, Uc.f k kd P ps body S = some (if bv = true then 0 else 4) := by
        refine Sha.Ev.get (v := if bv = true then 0 else 4) ?_
        unfold Uc.f
        refine Sha.Ev.bind (con_ev kd P ps body S HLn.out) ?_
        unfold conR
        rw [if_pos (right_bare hr2), hm2]
        refine ifs rfl (Sha.Ev.bind (right_ev kd P ps body S HLn.out) ?_)
        rw [hr2]
        refine Sha.Ev.succ (fun k => Uc.j0.eq_2 m2 (!true) kd P ps body S k) (ifn (by decide) (Sha.Ev.bind hV2 ?_))
        cases bv
        · exact ifn (by decide) (Sha.Ev.pure _)
        · exact ifs rfl (Sha.Ev.pure _)
      obtain ⟨k1, hV1⟩ := hV1.get
      obtain ⟨k3, hV3⟩ := hV3.get
      have HV1 := Aside0.mk hV1
      have HV3 := Aside0.mk hV3
      have HBo := Aside0.mk hBo
      cases bv
      · have HCk := Aside0.mk (show Uc.f kk kd P ps body S = some 4 from hCk)
        clear hr2 n3 hz2 hm2 hm2z hCd HR2 he hV1 hV2 hV3 hBo hEx hCk
        refine sK_ 15 (Two gw gg (.int .i64 kd) (.string P) (.slice Av ps.length cv) (.string body) (.string S) (.int .i64 kind) (.string P) (.slice Av ps.length cv) (.string b) (.string S)) [] tab10 bits10 E.out.two fun hHeld HT_ HW_ => ?_
        generalize ((w11.setCell ⟨gw, 3, none⟩ (.string body)).setCell ⟨gw, 0, none⟩ (.int .i64 kd)).drew = wr at E HV hHeld ⊢
        refine runs_ [(0, some 59)] ?_
        refine tL_ ?_; refine runsE_ ?_
        refine oK_ 1 (some 60) fun K hK => ?_
        refine goes_ Tryz.func9 (by kernel_rfl) rfl #[.agg #[.int .i64 kd, .string P, .slice Av ps.length cv, .string body, .string S]] (by rfl) rfl rfl gm1_ ?_
        (with_reducible refine (Je.calls kr kd P Av cv ps body S true _ (Kd.R_reads' HV.out).2.2 (Kd.R_reads' HV.out).2.1 HRr.out).mono ?_)
        rintro e wn ⟨rfl, hb⟩
        refine ⟨_, rfl, ?_⟩
        replace E := Aside0.mk (E.out.below hb)
        replace HV := Aside0.mk (Kd.R_below HV.out hb)
        clear hb
        refine hK.out _ _ E.out.two (fun hHeld => ?_)
        clear hK K
        refine nK_ (some 60) ?_
        refine runs_ [(2, some 61), (3, some 62), (4, some 63), (6, some 65)] ?_
        (iterate 2 (refine pL_ ?_)); (iterate 2 (refine tL_ ?_)); refine runsE_ ?_
        refine oK_ 5 (some 64) fun K hK => ?_
        refine goes_ Tryz.func10 (by kernel_rfl) rfl #[.agg #[.int .i64 kd, .string P, .slice Av ps.length cv, .string body, .string S]] (by rfl) rfl rfl gm1_ ?_
        (with_reducible refine (Jt.calls kd2 kd P Av cv ps body S m2 _ (Kd.R_reads' HV.out).2.2 (Kd.R_reads' HV.out).2.1 HCd.out).mono ?_)
        rintro e wn ⟨rfl, hb⟩
        refine ⟨_, rfl, ?_⟩
        replace E := Aside0.mk (E.out.below hb)
        replace HV := Aside0.mk (Kd.R_below HV.out hb)
        clear hb
        refine hK.out _ _ E.out.two (fun hHeld => ?_)
        clear hK K
        refine nK_ (some 64) ?_
        refine oK_ 7 (some 66) fun K hK => ?_
        refine goes_ Tryz.func10 (by kernel_rfl) rfl #[.agg #[.int .i64 kind, .string P, .slice Av ps.length cv, .string b, .string S]] (by rfl) rfl rfl gm1_ ?_
        (with_reducible refine (Jt.calls kc kind P Av cv ps b S m _ (Kd.R_reads' HV.out).2.2 (Kd.R_reads' HV.out).2.1 HCc.out).mono ?_)
        rintro e wn ⟨rfl, hb⟩
        refine ⟨_, rfl, ?_⟩
        replace E := Aside0.mk (E.out.below hb)
        replace HV := Aside0.mk (Kd.R_below HV.out hb)
        clear hb
        refine hK.out _ _ E.out.two (fun hHeld => ?_)
        clear hK K
        refine nK_ (some 66) ?_
        refine runs_ [(8, some 67), (9, some 68), (10, some 69), (11, some 70)] ?_
        (iterate 3 (refine pL_ ?_)); refine tL_ ?_; refine runsE_ ?_
        refine oK_ 12 (some 71) fun K hK => ?_
        refine goes_ Tryz.func11 (by kernel_rfl) rfl #[.agg #[.int .i64 kd, .string P, .slice Av ps.length cv, .string body, .string S]] (by rfl) rfl rfl gm1_ ?_
        (with_reducible refine (Uc.calls kk kd P Av cv ps body S 4 _ (Kd.R_reads' HV.out).2.2 (Kd.R_reads' HV.out).2.1 (Kd.C_below HG.out E.out.B) HCk.out).mono ?_)
        rintro e wn ⟨rfl, hb⟩
        refine ⟨_, rfl, ?_⟩
        replace E := Aside0.mk (E.out.below hb)
        replace HV := Aside0.mk (Kd.R_below HV.out hb)
        clear hb
        refine hK.out _ _ E.out.two (fun hHeld => ?_)
        clear hK K
        refine nK_ (some 71) ?_
        refine runs_ [(13, some 72), (14, some 73)] ?_
        (iterate 2 (refine pL_ ?_)); refine runsE_ ?_
        refine dK_ ?_
        go_wp2
        go_ret
        exact ⟨rfl, E.out.B⟩
      · have HCk := Aside0.mk (show Uc.f kk kd P ps body S = some 0 from hCk)
        obtain ⟨kx, hX⟩ := (hEx he rfl).get
        have HX := Aside0.mk hX
        clear hr2 n3 hz2 hm2 hm2z hCd HR2 he hV1 hV2 hV3 hBo hEx hCk hX
        refine sK_ 15 (Two gw gg (.int .i64 kd) (.string P) (.slice Av ps.length cv) (.string body) (.string S) (.int .i64 kind) (.string P) (.slice Av ps.length cv) (.string b) (.string S)) [] tab10 bits10 E.out.two fun hHeld HT_ HW_ => ?_
        generalize ((w11.setCell ⟨gw, 3, none⟩ (.string body)).setCell ⟨gw, 0, none⟩ (.int .i64 kd)).drew = wr at E HV hHeld ⊢
        refine runs_ [(0, some 59)] ?_
        refine tL_ ?_; refine runsE_ ?_
        refine oK_ 1 (some 60) fun K hK => ?_
        refine goes_ Tryz.func9 (by kernel_rfl) rfl #[.agg #[.int .i64 kd, .string P, .slice Av ps.length cv, .string body, .string S]] (by rfl) rfl rfl gm1_ ?_
        (with_reducible refine (Je.calls kr kd P Av cv ps body S true _ (Kd.R_reads' HV.out).2.2 (Kd.R_reads' HV.out).2.1 HRr.out).mono ?_)
        rintro e wn ⟨rfl, hb⟩
        refine ⟨_, rfl, ?_⟩
        replace E := Aside0.mk (E.out.below hb)
        replace HV := Aside0.mk (Kd.R_below HV.out hb)
        clear hb
        refine hK.out _ _ E.out.two (fun hHeld => ?_)
        clear hK K
        refine nK_ (some 60) ?_
        refine runs_ [(2, some 61), (3, some 62), (4, some 63), (6, some 65)] ?_
        (iterate 2 (refine pL_ ?_)); (iterate 2 (refine tL_ ?_)); refine runsE_ ?_
        refine oK_ 5 (some 64) fun K hK => ?_
        refine goes_ Tryz.func10 (by kernel_rfl) rfl #[.agg #[.int .i64 kd, .string P, .slice Av ps.length cv, .string body, .string S]] (by rfl) rfl rfl gm1_ ?_
        (with_reducible refine (Jt.calls kd2 kd P Av cv ps body S m2 _ (Kd.R_reads' HV.out).2.2 (Kd.R_reads' HV.out).2.1 HCd.out).mono ?_)
        rintro e wn ⟨rfl, hb⟩
        refine ⟨_, rfl, ?_⟩
        replace E := Aside0.mk (E.out.below hb)
        replace HV := Aside0.mk (Kd.R_below HV.out hb)
        clear hb
        refine hK.out _ _ E.out.two (fun hHeld => ?_)
        clear hK K
        refine nK_ (some 64) ?_
        refine oK_ 7 (some 66) fun K hK => ?_
        refine goes_ Tryz.func10 (by kernel_rfl) rfl #[.agg #[.int .i64 kind, .string P, .slice Av ps.length cv, .string b, .string S]] (by rfl) rfl rfl gm1_ ?_
        (with_reducible refine (Jt.calls kc kind P Av cv ps b S m _ (Kd.R_reads' HV.out).2.2 (Kd.R_reads' HV.out).2.1 HCc.out).mono ?_)
        rintro e wn ⟨rfl, hb⟩
        refine ⟨_, rfl, ?_⟩
        replace E := Aside0.mk (E.out.below hb)
        replace HV := Aside0.mk (Kd.R_below HV.out hb)
        clear hb
        refine hK.out _ _ E.out.two (fun hHeld => ?_)
        clear hK K
        refine nK_ (some 66) ?_
        refine runs_ [(8, some 67), (9, some 68), (10, some 69), (11, some 70)] ?_
        (iterate 3 (refine pL_ ?_)); refine tL_ ?_; refine runsE_ ?_
        refine oK_ 12 (some 71) fun K hK => ?_
        refine goes_ Tryz.func11 (by kernel_rfl) rfl #[.agg #[.int .i64 kd, .string P, .slice Av ps.length cv, .string body, .string S]] (by rfl) rfl rfl gm1_ ?_
        (with_reducible refine (Uc.calls kk kd P Av cv ps body S 0 _ (Kd.R_reads' HV.out).2.2 (Kd.R_reads' HV.out).2.1 (Kd.C_below HG.out E.out.B) HCk.out).mono ?_)
        rintro e wn ⟨rfl, hb⟩
        refine ⟨_, rfl, ?_⟩
        replace E := Aside0.mk (E.out.below hb)
        replace HV := Aside0.mk (Kd.R_below HV.out hb)
        clear hb
        refine hK.out _ _ E.out.two (fun hHeld => ?_)
        clear hK K
        refine nK_ (some 71) ?_
        refine runs_ [(13, some 72), (14, some 73)] ?_
        (iterate 2 (refine pL_ ?_)); refine runsE_ ?_
        refine dK_ ?_
        go_upto_region 12 with (fail)
        replace HV := Aside0.mk (Kd.R_drew HV.out)
        replace E := Aside0.mk E.out.drew
        refine sK_ 12 (Two gw gg (.int .i64 kd) (.string P) (.slice Av ps.length cv) (.string body) (.string S) (.int .i64 kind) (.string P) (.slice Av ps.length cv) (.string b) (.string S)) [] tab12 bits12 E.out.two fun hHeld HT_ HW_ => ?_
        generalize wn.drew = wr at E HV hHeld ⊢
        refine runs_ [(0, some 75), (1, some 76), (2, some 77), (4, some 79), (5, some 80)] ?_
        refine pL_ ?_; (iterate 2 (refine tL_ ?_)); refine pL_ ?_; refine tL_ ?_; refine runsE_ ?_
        refine oK_ 3 (some 78) fun K hK => ?_
        refine goes_ Tryz.func10 (by kernel_rfl) rfl #[.agg #[.int .i64 kind, .string P, .slice Av ps.length cv, .string b, .string S]] (by rfl) rfl rfl gm1_ ?_
        (with_reducible refine (Jt.calls kc kind P Av cv ps b S m _ (Kd.R_reads' HV.out).2.2 (Kd.R_reads' HV.out).2.1 HCc.out).mono ?_)
        rintro e wn ⟨rfl, hb⟩
        refine ⟨_, rfl, ?_⟩
        replace E := Aside0.mk (E.out.below hb)
        replace HV := Aside0.mk (Kd.R_below HV.out hb)
        clear hb
        refine hK.out _ _ E.out.two (fun hHeld => ?_)
        clear hK K
        refine nK_ (some 78) ?_
        refine oK_ 6 (some 81) fun K hK => ?_
        refine goes_ Tryz.func12 (by kernel_rfl) rfl #[.string P, .string m, .string S] (by rfl) rfl rfl gm1_ ?_
        (with_reducible refine (Uf.calls k1 P m S true r1 _ HV1.out).mono ?_)
        rintro e wn ⟨vv, rfl, ho, hb⟩
        refine ⟨_, rfl, ?_⟩
        have HO1 := Aside0.mk ho
        obtain ⟨A1, eq_⟩ := Kd.R_slice HO1.out
        obtain ⟨cA1, eq_⟩ := eq_
        subst eq_
        clear ho
        replace E := Aside0.mk (E.out.below hb)
        replace HV := Aside0.mk (Kd.R_below HV.out hb)
        clear hb
        refine hK.out _ _ E.out.two (fun hHeld => ?_)
        clear hK K
        refine nK_ (some 81) ?_
        refine runs_ [(7, some 74), (8, some 82), (9, some 83), (10, some 13), (11, some 14)] ?_
        (iterate 5 (refine pL_ ?_)); refine runsE_ ?_
        refine dK_ ?_
        go_upto_region 13 with (fail)
        replace HV := Aside0.mk (Kd.R_drew HV.out)
        replace HO1 := Aside0.mk (Kd.R_drew HO1.out)
        replace E := Aside0.mk E.out.drew
        refine sK_ 12 (Two gw gg (.int .i64 kd) (.string P) (.slice Av ps.length cv) (.string body) (.string S) (.int .i64 kind) (.string P) (.slice Av ps.length cv) (.string b) (.string S)) [] tab13 bits12 E.out.two fun hHeld HT_ HW_ => ?_
        generalize wn.drew = wr at E HV HO1 hHeld ⊢
        refine runs_ [(0, some 85), (1, some 86), (2, some 87), (4, some 89), (5, some 90)] ?_
        refine pL_ ?_; (iterate 2 (refine tL_ ?_)); refine pL_ ?_; refine tL_ ?_; refine runsE_ ?_
        refine oK_ 3 (some 88) fun K hK => ?_
        refine goes_ Tryz.func10 (by kernel_rfl) rfl #[.agg #[.int .i64 kd, .string P, .slice Av ps.length cv, .string body, .string S]] (by rfl) rfl rfl gm1_ ?_
        (with_reducible refine (Jt.calls kd2 kd P Av cv ps body S m2 _ (Kd.R_reads' HV.out).2.2 (Kd.R_reads' HV.out).2.1 HCd.out).mono ?_)
        rintro e wn ⟨rfl, hb⟩
        refine ⟨_, rfl, ?_⟩
        replace HO1 := Aside0.mk (Kd.R_below HO1.out hb)
        replace E := Aside0.mk (E.out.below hb)
        replace HV := Aside0.mk (Kd.R_below HV.out hb)
        clear hb
        refine hK.out _ _ E.out.two (fun hHeld => ?_)
        clear hK K
        refine nK_ (some 88) ?_
        refine oK_ 6 (some 91) fun K hK => ?_
        refine goes_ Tryz.func12 (by kernel_rfl) rfl #[.string P, .string m2, .string S] (by rfl) rfl rfl gm1_ ?_
        (with_reducible refine (Uf.calls k3 P m2 S true r3 _ HV3.out).mono ?_)
        rintro e wn ⟨vv, rfl, ho, hb⟩
        refine ⟨_, rfl, ?_⟩
        replace HO1 := Aside0.mk (Kd.R_below HO1.out hb)
        have HO2 := Aside0.mk ho
        obtain ⟨A2, eq_⟩ := Kd.R_slice HO2.out
        obtain ⟨cA2, eq_⟩ := eq_
        subst eq_
        clear ho
        replace E := Aside0.mk (E.out.below hb)
        replace HV := Aside0.mk (Kd.R_below HV.out hb)
        clear hb
        refine hK.out _ _ E.out.two (fun hHeld => ?_)
        clear hK K
        refine nK_ (some 91) ?_
        refine runs_ [(7, some 84), (8, some 92), (9, some 93), (10, some 15), (11, some 16)] ?_
        (iterate 5 (refine pL_ ?_)); refine runsE_ ?_
        refine dK_ ?_
        go_upto_region 14 with (fail)
        replace HV := Aside0.mk (Kd.R_drew HV.out)
        replace HO1 := Aside0.mk (Kd.R_drew HO1.out)
        replace HO2 := Aside0.mk (Kd.R_drew HO2.out)
        replace E := Aside0.mk E.out.drew
        refine sK_ 12 (Two gw gg (.int .i64 kd) (.string P) (.slice Av ps.length cv) (.string body) (.string S) (.int .i64 kind) (.string P) (.slice Av ps.length cv) (.string b) (.string S)) [] tab14 bits14 E.out.two fun hHeld HT_ HW_ => ?_
        generalize wn.drew = wr at E HV HO1 HO2 hHeld ⊢
        refine runs_ [(0, some 94)] ?_
        refine tL_ ?_; refine runsE_ ?_
        refine oK_ 1 (some 95) fun K hK => ?_
        refine goes_ Tryz.func11 (by kernel_rfl) rfl #[.agg #[.int .i64 kd, .string P, .slice Av ps.length cv, .string body, .string S]] (by rfl) rfl rfl gm1_ ?_
        (with_reducible refine (Uc.calls kk kd P Av cv ps body S 0 _ (Kd.R_reads' HV.out).2.2 (Kd.R_reads' HV.out).2.1 (Kd.C_below HG.out E.out.B) HCk.out).mono ?_)
        rintro e wn ⟨rfl, hb⟩
        refine ⟨_, rfl, ?_⟩
        replace HO1 := Aside0.mk (Kd.R_below HO1.out hb)
        replace HO2 := Aside0.mk (Kd.R_below HO2.out hb)
        replace E := Aside0.mk (E.out.below hb)
        replace HV := Aside0.mk (Kd.R_below HV.out hb)
        clear hb
        refine hK.out _ _ E.out.two (fun hHeld => ?_)
        clear hK K
        refine nK_ (some 95) ?_
        refine runs_ [(2, some 96), (3, some 97), (4, some 98), (5, some 99), (7, some 101), (8, some 102)] ?_
        (iterate 5 (refine pL_ ?_)); refine tL_ ?_; refine runsE_ ?_
        refine oK_ 6 (some 100) fun K hK => ?_
        refine goes_ Tryz.func14 (by kernel_rfl) rfl #[.slice A1 r1.length cA1, .slice A2 r3.length cA2] (by rfl) rfl rfl gm1_ ?_
        (with_reducible refine (U0.calls A1 cA1 r1 A2 cA2 r3 r _ (Kd.R_reads' HO1.out).2.2 (Kd.R_reads' HO1.out).2.1 (Kd.R_reads' HO2.out).2.2 (Kd.R_reads' HO2.out).2.1 HBo.out).mono ?_)
        rintro e wn ⟨vv, rfl, ho, hb⟩
        refine ⟨_, rfl, ?_⟩
        have HO3 := Aside0.mk ho
        obtain ⟨A3, eq_⟩ := Kd.R_slice HO3.out
        obtain ⟨cA3, eq_⟩ := eq_
        subst eq_
        clear ho HO1 HO2
        replace E := Aside0.mk (E.out.below hb)
        replace HV := Aside0.mk (Kd.R_below HV.out hb)
        clear hb
        refine hK.out _ _ E.out.two (fun hHeld => ?_)
        clear hK K
        refine nK_ (some 100) ?_
        refine oK_ 9 (some 103) fun K hK => ?_
        refine goes_ Tryz.func13 (by kernel_rfl) rfl #[.slice A3 r.length cA3, .string S] (by rfl) rfl rfl gm1_ ?_
        (with_reducible refine (Uq.calls kx A3 cA3 r S true _ (Kd.R_reads' HO3.out).2.2 (Kd.R_reads' HO3.out).2.1 HX.out).mono ?_)
        rintro e wn ⟨rfl, hb⟩
        refine ⟨_, rfl, ?_⟩
        replace E := Aside0.mk (E.out.below hb)
        replace HV := Aside0.mk (Kd.R_below HV.out hb)
        clear hb
        refine hK.out _ _ E.out.two (fun hHeld => ?_)
        clear hK K
        refine nK_ (some 103) ?_
        refine runs_ [(10, some 104), (11, some 8)] ?_
        (iterate 2 (refine pL_ ?_)); refine runsE_ ?_
        refine dK_ ?_
        go_wp2
        go_ret
        exact ⟨rfl, E.out.B⟩
set_option maxRecDepth 100000 in
set_option maxHeartbeats 6400000 in
theorem hand_EventTurned (kind : Int) (a : ByteArray) (A : Option Addr) (c : Nat) (ps : List ByteArray) (b s sd body : ByteArray) (kd : Int) (W : World) (_w0 : (Lit.int .i64 kind).wf = true) (_y : ps.length ≤ 9223372036854775807) (_w1 : sd.size ≤ 140737488351232) (_w2 : body.size ≤ 140737488351232) (_w3 : (Lit.int .i64 kd).wf = true) (hr : Kd.C Kd.string W A ps.length ps) (hc : ps.length ≤ c) (hG : Keys W) :
    Calls Tryz.prog 3 #[.agg #[.int .i64 kind, .string a, .slice A ps.length c, .string b, .string s], .string sd, .string body, .int .i64 kd] W fun e w' => e = .returned (.bool true) ∧ Below W.heap.size W w' := by
  obtain ⟨gt, hgt⟩ := great_ev kind a ps b s
  obtain ⟨k0, hk⟩ := hgt.get
  by_cases h : gt = true ∨ (gt = false ∧ (300 < sd.size ∨ (¬ 300 < sd.size ∧ 500 < body.size)))
  · exact turned_rest kind a A c ps b s sd body kd W hr hc hG k0 gt hk h
  · obtain rfl : gt = false := by cases gt; rfl; exact absurd (.inl rfl) h
    have hs : ¬ 300 < sd.size := fun e => h (.inr ⟨rfl, .inl e⟩)
    have hbo : ¬ 500 < body.size := fun e => h (.inr ⟨rfl, .inr ⟨hs, e⟩⟩)
    cases hR : rightB kind (pubK sd 0) ps b ⟨#[]⟩
    · exact turned_form kind a A c ps b s sd body kd W hr hc hG (by omega) (by omega) hgt hR
    · exact turned_ok kind a A c ps b s sd body kd W hr hc hG (by omega) (by omega) hgt hR
end Go.Proofs.YtdodghifojkclaaGreatDoor.KeyO
