/-
  What a key's methods answer, as values: its public, its signatures.
-/
import Derived.Test.YtdodghifojkclaaGreatDoorKeyO
import Derived.Test.YtdodghifojkclaaGreatDoorJn
import Derived.Test.YtdodghifojkclaaGreatDoorWts3
import Derived.Test.YtdodghifojkclaaGreatDoorMrk
import Derived.Test.YtdodghifojkclaaGreatDoorPPx1
import Derived.Test.YtdodghifojkclaaGreatDoorPPx2
namespace Go.Proofs.YtdodghifojkclaaGreatDoor.KeyO
open Go.RowKit Go.Proofs.YtdodghifojkclaaGreatDoor.PP Go.Proofs.YtdodghifojkclaaGreatDoorW.PrintWords Go.Proofs.YtdodghifojkclaaGreatDoorW.PrintLast Go.Proofs.YtdodghifojkclaaGreatDoorW.PrintMore
set_option linter.unusedVariables false
set_option linter.unusedSimpArgs false
open Go.Proofs.YtdodghifojkclaaGreatDoor.Sha (ifs ifn)

/-- The global words, as the law's world has them. -/
abbrev Keys (w0 : World) : Prop := Kd.C (Kd.int .u32) w0 (some ⟨0, 0, none⟩) keysL.length keysL
def pub (s : ByteArray) (i : Nat) : ByteArray := Sha.pb s (i : Int)
theorem pub_size (s : ByteArray) (i : Nat) : (pub s i).size ≤ 300 := by
  rw [show (pub s i).size = 32 from Sha.tT_size _ _]; decide
theorem lv_len (s : ByteArray) (h : Int) : (lv pub s h).length = 2 ^ h.toNat := lvs_len _ _
theorem lv_mem (s : ByteArray) (h : Int) : ∀ x ∈ lv pub s h, x.size ≤ 300 := by
  intro x hx
  unfold lv lvs at hx
  obtain ⟨i, _, rfl⟩ := List.mem_map.1 hx
  exact pub_size s i
theorem pub_at (s : ByteArray) (hs : s.size ≤ 300) (w0 : World) (hrG : Keys w0) : PubAt pub s w0 := by
  intro i W hi hb
  obtain ⟨k, hk⟩ := (Sha.public_ev s hs (i : Int)).get
  rw [if_pos ⟨by omega, by omega⟩] at hk
  exact (Uv.calls k s i (Sha.pb s i) true W (Kd.C_below hrG hb) hk).mono fun e W' ⟨he, hB⟩ => ⟨true, he, hB⟩
def rootK (s : ByteArray) (h : Int) : ByteArray := Sha.Rt h.toNat (lv pub s h)
theorem rootK_size (s : ByteArray) (h : Int) : (rootK s h).size ≤ 300 := Sha.Rt_size _ _ (lv_len s h) (lv_mem s h)
def pubK (s : ByteArray) (h : Int) : ByteArray := Sha.tT 5 [Sha.one h.toNat, rootK s h]
theorem leavesK (s : ByteArray) (h : Int) (h0 : 0 ≤ h) (h4 : h ≤ 4) : Ue.f ((lv pub s h).length : Int) = some true := by
  have h2 := two_le h0 h4
  rw [show (lv pub s h).length = two h from lvs_len _ _, Sha.leaves_eq _ (by omega) (by omega)]
  rcases (by omega : h = 0 ∨ h = 1 ∨ h = 2 ∨ h = 3 ∨ h = 4) with rfl | rfl | rfl | rfl | rfl <;> rfl
theorem pair_mem (x y : ByteArray) (hx : x.size ≤ 2000) (hy : y.size ≤ 2000) : ∀ s ∈ [x, y], s.size ≤ 2000 := by
  intro s h
  rcases List.mem_cons.1 h with rfl | h
  · exact hx
  · simp at h
    rw [h]
    exact hy
theorem named_ev (h : Int) (h0 : 0 ≤ h) (h4 : h ≤ 4) (x : ByteArray) (hx : x.size ≤ 300) : Sha.Ev (fun k => Uw.f k h x) (Sha.tT 5 [Sha.one h.toNat, x]) := by
  obtain ⟨n, rfl⟩ : ∃ n : Nat, h = (n : Int) := ⟨h.toNat, by omega⟩
  unfold Uw.f
  exact Sha.Ev.bind (Sha.one_ev n (by omega)) (Sha.Ev.bind (Sha.tagT 5 _ (pair_mem _ _ (by rw [Sha.one_size]; decide) (by omega)) (by simp)) (Sha.Ev.pure _))
set_option maxRecDepth 100000 in
set_option maxHeartbeats 6400000 in
theorem public_ (g : Nat) (s : ByteArray) (h u : Int) (w0 w : World) (hI : IsKey (lv pub) w0 w g s h u) (hB : Below w0.heap.size w0 w) (hs : s.size ≤ 300) (hrG : Keys w0) :
    Calls Tryz.prog 23 #[.pointer (some ⟨g, 0, none⟩)] w fun e w' => e = .returned (.string (pubK s h)) ∧ IsKey (lv pub) w0 w' g s h u ∧ Below w0.heap.size w0 w' ∧ KeepBut w w' g none := by
  have hP := pub_at s hs w0 hrG
  have h0 := hI.2.1
  have h4 := hI.2.2.1
  obtain ⟨k1, hR⟩ := (Sha.Root_yes (lv pub s h) h.toNat (by omega) (lv_len s h) (lv_mem s h) (leavesK s h h0 h4)).get
  obtain ⟨k2, hN⟩ := (named_ev h h0 h4 (rootK s h) (rootK_size s h)).get
  have HI := Aside0.mk hI
  have HB := Aside0.mk hB
  have HP := Aside0.mk hP
  have HRG := Aside0.mk hrG
  have HR := Aside0.mk (show U3.f k1 (lv pub s h) = some (rootK s h, true) from hR)
  have HN := Aside0.mk (show Uw.f k2 h (rootK s h) = some (pubK s h) from hN)
  clear hI hB hP hrG hR hN
  go_enter Tryz.func23, Tryz.ntmps23
  go_wp2_with (first
    | (go_at_call 48; refine (tree pub g s h u w0 w HI.out HB.out HP.out).mono ?_; rintro e w1 ⟨A1, cp1, rfl, hC, hc, hI1, hB1, hK1⟩; have HI1 := Aside0.mk hI1; have HB1 := Aside0.mk hB1; have HK1 := Aside0.mk hK1; have HC1 := Aside0.mk hC; have Hc1 := Aside0.mk hc; clear HI HB hI1 hB1 hK1 hC hc)
    | (go_at_call 47; (with_reducible refine (U3.calls k1 _ _ (lv pub s h) (rootK s h) true _ HC1.out Hc1.out (Kd.C_below HRG.out HB1.out) HR.out).mono ?_); rintro e w2 ⟨rfl, hb⟩; have HI2 := Aside0.mk (HI1.out.below hb); have HB2 := Aside0.mk (below_step HB1.out hb); have HK2 := Aside0.mk (HK1.out.trans (KeepBut.of_below hb g none) (.inl rfl)); clear HI1 HB1 HK1 HC1 Hc1 hb; (obtain ⟨c0, c1⟩ : w2.cell? ⟨g, 0, none⟩ = some (.string s) ∧ w2.cell? ⟨g, 1, none⟩ = some (.int .i64 h) := by (rcases HI2.out.2.2.2 with k | ⟨v, k, _⟩) <;> exact ⟨k.cells.1, k.cells.2.1⟩))
    | (go_at_call 49; (with_reducible refine (Uw.calls k2 h (rootK s h) (pubK s h) _ (Kd.C_below HRG.out HB2.out) HN.out).mono ?_); rintro e w3 ⟨rfl, hb⟩; have HI3 := Aside0.mk (HI2.out.below hb); have HB3 := Aside0.mk (below_step HB2.out hb); have HK3 := Aside0.mk (HK2.out.trans (KeepBut.of_below hb g none) (.inl rfl)); clear HI2 HB2 HK2 hb c0 c1))
  go_ret
  exact ⟨rfl, HI3.out, HB3.out, HK3.out⟩
/-! ### signatures -/
def nn (u : Int) : ByteArray := strOfNums [u / 256, u % 256]
theorem nn_size (u : Int) : (nn u).size = 2 := by unfold nn; rw [strOfNums_size]; rfl
def dgK (m : ByteArray) : ByteArray := Sha.tT 6 [m]
/-- The values of a key's u-th signature of a message, and its path. -/
def valsK (s : ByteArray) (u : Int) (m : ByteArray) : List ByteArray := Sha.sg s u (dgK m)
def pathK (s : ByteArray) (h : Int) (u : Int) : List ByteArray := Sha.Pt (lv pub s h) u.toNat h.toNat 0
def sigK (s : ByteArray) (h u : Int) (m : ByteArray) : ByteArray := (nn u ++ Jn.catS (valsK s u m)) ++ Jn.catS (pathK s h u)
theorem valsK_len (s : ByteArray) (u : Int) (m : ByteArray) : (valsK s u m).length = 67 := Sha.sg_len _ _ _
theorem valsK_mem (s : ByteArray) (u : Int) (m : ByteArray) : ∀ x ∈ valsK s u m, x.size ≤ 300 := Sha.sg_mem _ _ _
theorem pathK_len (s : ByteArray) (h u : Int) : (pathK s h u).length = h.toNat := Sha.Pt_len _ _ _ _
theorem pathK_mem (s : ByteArray) (h u : Int) (u0 : 0 ≤ u) (u1 : u < two h) : ∀ x ∈ pathK s h u, x.size ≤ 300 :=
  Sha.Pt_mem _ h.toNat (lv_len s h) (lv_mem s h) u.toNat (by unfold two at u1; omega) h.toNat 0 (by omega)
theorem short_ev (u : Int) (u0 : 0 ≤ u) (u1 : u < 65536) : Sha.Ev (fun k => Uj.f k u) (nn u, true) := by
  unfold Uj.f
  refine Sha.Ev.bind (v := (nn u, true)) ⟨5, fun k hk => ?_⟩ (Sha.Ev.pure _)
  obtain ⟨j, rfl⟩ : ∃ j, k = j + 5 := ⟨k - 5, by omega⟩
  show Jr.f (j + 5) u 2 = _
  rw [Oct.short_eq j u]
  rw [if_neg (by omega)]
  rfl
theorem one_mem (c : ByteArray) (hc : c.size ≤ 2000) : ∀ x ∈ [c], x.size ≤ 2000 := by
  intro x h
  simp at h
  rw [h]
  exact hc
theorem dgK_ev (m : ByteArray) (hm : m.size ≤ 2000) : Sha.Ev (fun k => J5.f k 6 [m]) (dgK m) := Sha.tagT 6 _ (one_mem m hm) (by simp)
theorem dgK_size (m : ByteArray) : (dgK m).size = 32 := Sha.tT_size _ _
theorem vals_ev (s : ByteArray) (hs : s.size ≤ 300) (u : Int) (u0 : 0 ≤ u) (u1 : u < 65536) (m : ByteArray) : Sha.Ev (fun k => Uy.f k s u (dgK m)) (valsK s u m, true) := by
  have := Sha.sign_ev s hs u (dgK m)
  rw [if_pos ⟨⟨u0, by omega⟩, dgK_size m⟩] at this
  exact this
theorem path_ev (s : ByteArray) (h u : Int) (h0 : 0 ≤ h) (h4 : h ≤ 4) (u0 : 0 ≤ u) (u1 : u < two h) : Sha.Ev (fun k => Jz.f k (lv pub s h) u) (pathK s h u, true) := by
  obtain ⟨n, rfl⟩ : ∃ n : Nat, u = (n : Int) := ⟨u.toNat, by omega⟩
  exact Sha.path_ev (lv pub s h) h.toNat (by omega) (lv_len s h) (lv_mem s h) n (by unfold two at u1; omega) (leavesK s h h0 h4)
theorem shl32 (h : Int) (h0 : 0 ≤ h) (h4 : h ≤ 4) : wrap32 (2 ^ h.toNat) = (two h : Int) := by
  rcases (by omega : h = 0 ∨ h = 1 ∨ h = 2 ∨ h = 3 ∨ h = 4) with rfl | rfl | rfl | rfl | rfl <;> kernel_rfl
theorem load_ (a : Addr) (x : Int) (w : World) (hc : w.cell? a = some (.int .i32 x)) :
    Calls Tryz.prog 40 #[.pointer (some a)] w fun e w' => e = .returned (.int .i32 x) ∧ w' = w := by
  have hl := run_call_load (P := Tryz.prog) Tryz.func65 (by kernel_rfl) (by kernel_rfl) (by kernel_rfl) .i32 (by kernel_rfl) hc
  go_enter Tryz.func40, Tryz.ntmps40
  go_wp2
  go_ret
  exact ⟨rfl, rfl⟩
theorem cas_ (a : Addr) (x y : Int) (w : World) (hc : w.cell? a = some (.int .i32 x)) (hz : w.frozen? a = false) :
    Calls Tryz.prog 50 #[.pointer (some a), .int .i32 x, .int .i32 y] w fun e w' => e = .returned (.bool true) ∧ w' = w.setCell a (.int .i32 y) := by
  have hl := run_call_cas_hit (P := Tryz.prog) Tryz.func79 (by kernel_rfl) (by kernel_rfl) (by kernel_rfl) .i32 (by kernel_rfl) (y := y) hc hz
  go_enter Tryz.func50, Tryz.ntmps50
  go_wp2
  go_ret
  exact ⟨rfl, rfl⟩
section
variable {L : ByteArray → Int → List ByteArray} {w0 W : World} {g : Nat} {s : ByteArray} {h u : Int}
theorem IsKey.kb (k : IsKey L w0 W g s h u) : ∃ d v, KB W g s h u d 0 v := by
  rcases k.2.2.2 with k | ⟨v, k, _⟩
  · exact ⟨_, _, k⟩
  · exact ⟨_, _, k⟩
theorem IsKey.cells (k : IsKey L w0 W g s h u) : W.cell? ⟨g, 0, none⟩ = some (.string s) ∧ W.cell? ⟨g, 1, none⟩ = some (.int .i64 h) ∧ W.cell? ⟨g, 2, none⟩ = some (.int .i32 u) := by
  obtain ⟨d, v, k⟩ := k.kb
  exact ⟨k.cells.1, k.cells.2.1, k.cells.2.2.1⟩
theorem IsKey.blk (k : IsKey L w0 W g s h u) : ∃ cs, W.heap[g]? = some (.cells cs 62 (0, 0)) := by
  obtain ⟨d, v, k⟩ := k.kb
  exact ⟨_, k.blk⟩
theorem IsKey.fz (k : IsKey L w0 W g s h u) (i : Nat) : W.frozen? ⟨g, i, none⟩ = false := by
  obtain ⟨d, v, k⟩ := k.kb
  exact k.fz i
theorem IsKey.cas (k : IsKey L w0 W g s h u) (x : Int) : IsKey L w0 (W.setCell ⟨g, 2, none⟩ (.int .i32 x)) g s h x :=
  ⟨k.1, k.2.1, k.2.2.1, k.2.2.2.imp (fun k => k.used x) (fun ⟨v, k, r⟩ => ⟨v, k.used x, Kd.R_far (p := ⟨g, 2, none⟩) r (fun _ hk => hk) _⟩)⟩
end
def T9 : Bool × List (List Nat × List Nat) := (true, [([], []), ([0], [0]), ([1], [1]), ([2], [2]), ([], []), ([4], [4]), ([], []), ([6], [6]), ([7], [7]), ([3, 5, 8, 8], [3, 5, 8]), ([9], [9]), ([10], [10]), ([10], [10]), ([11, 9, 0, 1, 2, 3, 4, 5, 6, 7, 8, 9, 10, 11], [11]), ([12, 13, 0, 1, 2, 3, 4, 5, 6, 7, 8, 9, 10, 11, 12, 13], [12])])
def B9 : List Nat := [0, 1, 3, 7, 0, 16, 0, 64, 192, 511, 1023, 2047, 2047, 4095, 16383]
theorem tab9 : rtab .any (opsOf Tryz.f25 9) = T9 := by kernel_rfl
theorem bits9 : waitsOk T9.2 B9 = true := by kernel_rfl
set_option maxRecDepth 100000 in
set_option maxHeartbeats 6400000 in
theorem sign_ok (g : Nat) (s : ByteArray) (h u : Int) (m : ByteArray) (w0 w : World) (hI : IsKey (lv pub) w0 w g s h u) (hB : Below w0.heap.size w0 w) (hs : s.size ≤ 300) (hm : m.size ≤ 2000) (hrG : Keys w0) (u0 : 0 ≤ u) (u1 : u < two h) :
    Calls Tryz.prog 25 #[.pointer (some ⟨g, 0, none⟩), .string m] w fun e w' => e = .returned (.tuple #[.string (sigK s h u m), .int .i64 0]) ∧ IsKey (lv pub) w0 w' g s h (u + 1) ∧ Below w0.heap.size w0 w' ∧ KeepBut w w' g none := by
  have hP := pub_at s hs w0 hrG
  have h0 := hI.2.1
  have h4 := hI.2.2.1
  have h2 := two_le h0 h4
  have hsh := shl32 h h0 h4
  have p5 : (0 ≤ h) = True := eq_true h0
  have p6 : (h ≤ 4) = True := eq_true h4
  have p7 : (u < (two h : Int)) = True := eq_true u1
  have p8 : ((two h : Int) ≤ u) = False := eq_false (by omega)
  have p9 : wrap32 (u + 1) = u + 1 := by unfold wrap32; omega
  have p10 : wrap64 u = u := by unfold wrap64; omega
  obtain ⟨k1, hN⟩ := (short_ev u u0 (by omega)).get
  obtain ⟨k2, hD⟩ := (dgK_ev m hm).get
  obtain ⟨k3, hS⟩ := (vals_ev s hs u u0 (by omega) m).get
  obtain ⟨k4, hT⟩ := (path_ev s h u h0 h4 u0 u1).get
  have c2 := hI.cells.2.2
  have c1 := hI.cells.2.1
  have HI := Aside0.mk hI
  have HB := Aside0.mk hB
  have HP := Aside0.mk hP
  have HRG := Aside0.mk hrG
  have HN := Aside0.mk hN
  have HD := Aside0.mk hD
  have HS := Aside0.mk hS
  have HT := Aside0.mk hT
  clear hI hB hP hrG hN hD hS hT
  go_enter Tryz.func25, Tryz.ntmps25
  go_wp2_with (go_at_call 40; refine (load_ _ u w c2).mono ?_; rintro e w1 ⟨rfl, hw⟩; have hw := hw.symm; subst hw)
  refine wp_loop_once ?_
  go_wp2_with (first
    | (go_at_call 50; refine (cas_ _ u (u + 1) w c2 (HI.out.fz 2)).mono ?_; rintro e w1 ⟨rfl, hw⟩; have HI1 := Aside0.mk (show IsKey (lv pub) w0 w1 g s h (u + 1) by rw [hw]; exact HI.out.cas _); have HB1 := Aside0.mk (show Below w0.heap.size w0 w1 by rw [hw]; exact HB.out.setCell HI.out.ge _); have HK1 := Aside0.mk (show KeepBut w w1 g none by rw [hw]; exact (KeepBut.refl w g none).set_ 2 _); clear hw c1 c2; obtain ⟨c0, c1, c2⟩ := HI1.out.cells; clear HI HB)
    | (go_at_call 51; (with_reducible refine (Uj.calls k1 u (nn u) true _ HN.out).mono ?_); rintro e w2 ⟨rfl, hb⟩; have HI2 := Aside0.mk (HI1.out.below hb); have HB2 := Aside0.mk (below_step HB1.out hb); have HK2 := Aside0.mk (HK1.out.trans (KeepBut.of_below hb g none) (.inl rfl)); clear HI1 HB1 HK1 hb c0 c1 c2))
  have HI3 := Aside0.mk HI2.out.drew
  have HB3 := Aside0.mk HB2.out.drew
  have HK3 := Aside0.mk (keep_drew HK2.out)
  clear HI2 HB2 HK2
  refine start_ (n := 15) (S := fun w' => w'.cell? ⟨g, 0, none⟩ = some (.string s)) (ds := []) #[false, false, false, false, false, false, false, false, false, false, false, false, false, false, false] (by kernel_rfl) rfl rfl HI3.out.cells.1 (fun hHeld => ?_); refine with_tabW tab9 bits9 (fun HT_ HW_ => ?_)
  generalize w2.drew = w3 at HI3 HB3 HK3 hHeld ⊢
  refine runs_ [(0, some 54), (1, some 55), (2, some 56), (4, some 58), (5, some 59), (6, some 60)] ?_
  iterate 6 (refine pL_ ?_)
  refine runsE_ ?_
  refine runs_ [(3, some 57)] ?_
  refine takeL_ (v := ?_) (a' := ?_) rfl rfl (take_ofW HT_.out HW_.out (by kernel_rfl)) (Or.inl ⟨by rfl, ?_⟩) hHeld ?_ ?_ (fun _ _ _ h => h)
  rotate_left
  · intro w' hs
    go_simp
    with_reducible rfl
  rotate_left
  · simp only [pr_]
    rfl
  refine runsE_ ?_
  obtain ⟨ym, hym⟩ : ∃ y_ : List ByteArray, y_ = [m] := ⟨_, rfl⟩
  have Nym := Aside0.mk hym
  have HD2 := Aside0.mk (show J5.f k2 6 ym = some (dgK m) by rw [hym]; exact HD.out)
  clear hym HD
  refine one_ (i := 7) (N := some 61) #[true, true, true, true, true, true, true, true, false, false, false, false, false, false, false] rfl rfl (one_of HT_.out (by kernel_rfl)) (by decide) (fun K hK => ?_)
  refine Kd.R_lit_step Kd.string _ 9 ?hg (N := 61) ?hd (xs := ([m] : List ByteArray)) (inner := [.string m]) (ok := fun _ => True) (okp := fun _ => True) ?hr ?hp (fun _ hk => hk) trivial (Below.refl _ _) (Nat.le_refl _) (by simp) ?_; (case hd => rfl); (case hg => rfl); (case hr => first | (go_simp; done) | (go_simp; rfl)); (case hp => exact (Reps.one (show Kd.M Kd.string _ _ _ m [.string m] from rfl) (Reps.none _ _)))
  intro v4 w4 ho hb hg_ hnew_
  clear hg_ hnew_
  (first | rw [← Nym.out] at ho | (simp only [Int.reduceToNat] at ho; rw [← Nym.out] at ho))
  have HI4 := Aside0.mk (HI3.out.below hb); have HB4 := Aside0.mk (below_step HB3.out hb); have HK4 := Aside0.mk (HK3.out.trans (KeepBut.of_below hb g none) (.inl rfl))
  have HO := Aside0.mk ho
  clear HI3 HB3 HK3 hb ho
  obtain ⟨Ao, co, eo⟩ := Kd.R_slice HO.out
  subst eo
  refine hK.out _ _ HI4.out.cells.1 (fun hHeld => ?_)
  clear hK K
  refine norm_ (a' := ?_) ?_ ?_
  rotate_left
  · show Act.put _ (some 61) _ = _
    simp only [pr_]
    rfl
  refine one_ (i := 8) (N := some 62) #[true, true, true, true, true, true, true, true, true, false, false, false, false, false, false] rfl rfl (one_of HT_.out (by kernel_rfl)) (by decide) (fun K hK => ?_)
  refine goes_ Tryz.func45 (by kernel_rfl) rfl #[.int .i64 6, .slice Ao ym.length co] (by rfl) rfl rfl gm1_ ?_
  (with_reducible refine (J5.calls k2 6 _ _ ym (dgK m) _ (Kd.R_reads' HO.out).2.2 (Kd.R_reads' HO.out).2.1 (Kd.C_below HRG.out HB4.out) HD2.out).mono ?_)
  rintro e w5 ⟨rfl, hb⟩
  refine ⟨_, rfl, ?_⟩
  have HI5 := Aside0.mk (HI4.out.below hb); have HB5 := Aside0.mk (below_step HB4.out hb); have HK5 := Aside0.mk (HK4.out.trans (KeepBut.of_below hb g none) (.inl rfl))
  clear HI4 HB4 HK4 HO hb
  refine hK.out _ _ HI5.out.cells.1 (fun hHeld => ?_)
  clear hK K
  refine norm_ (a' := ?_) ?_ ?_
  rotate_left
  · show Act.put _ (some 62) _ = _
    simp only [pr_]
    rfl
  refine one_ (i := 9) (N := some 63) #[true, true, true, true, true, true, true, true, true, true, false, false, false, false, false] rfl rfl (one_of HT_.out (by kernel_rfl)) (by decide) (fun K hK => ?_)
  refine goes_ Tryz.func52 (by kernel_rfl) rfl #[.string s, .int .i64 u, .string (dgK m)] (by rfl) rfl rfl (by (try simp only [gm_]); first | rfl | (simp only [i64_w, p10]; rfl) | (simp only [p10]; rfl)) ?_
  (with_reducible refine (Uy.calls k3 s u (dgK m) (valsK s u m) true _ (Kd.C_below HRG.out HB5.out) HS.out).mono ?_)
  rintro e w6 ⟨vS, rfl, ho, hb⟩
  refine ⟨_, rfl, ?_⟩
  have HI6 := Aside0.mk (HI5.out.below hb); have HB6 := Aside0.mk (below_step HB5.out hb); have HK6 := Aside0.mk (HK5.out.trans (KeepBut.of_below hb g none) (.inl rfl))
  have HV := Aside0.mk ho
  clear HI5 HB5 HK5 ho hb
  refine hK.out _ _ HI6.out.cells.1 (fun hHeld => ?_)
  clear hK K
  refine norm_ (a' := ?_) ?_ ?_
  rotate_left
  · show Act.put _ (some 63) _ = _
    simp only [pr_]
    rfl
  refine runs_ [(10, some 53), (11, some 64), (12, some 65), (13, some 9), (14, some 10)] ?_
  iterate 5 (refine pL_ ?_)
  refine runsE_ ?_
  refine done_ (done_of HT_.out (by kernel_rfl)) ?_
  have l1 := valsK_len s u m
  have l2 := pathK_len s h u
  have m1 := valsK_mem s u m
  have m2 := pathK_mem s h u u0 u1
  have z1 := Jn.cat_le _ m1
  have z2 := Jn.cat_le _ m2
  rw [← Jn.catS_size] at z1 z2
  have z3 := nn_size u
  have z4 : (nn u ++ Jn.catS (valsK s u m)).size = (nn u).size + (Jn.catS (valsK s u m)).size := ByteArray.size_append
  have q1 : (9223372036854775807 < (nn u).size + (Jn.catS (valsK s u m)).size) = False := eq_false (by omega)
  have q2 : (9223372036854775807 < (nn u ++ Jn.catS (valsK s u m)).size + (Jn.catS (pathK s h u)).size) = False := eq_false (by omega)
  have q3 : (9223372036854775807 < (nn u).size + (Jn.catS (valsK s u m)).size + (Jn.catS (pathK s h u)).size) = False := eq_false (by omega)
  have L1 := Aside0.mk l1
  have L2 := Aside0.mk (show (pathK s h u).length ≤ 1000 by omega)
  have M1 := Aside0.mk m1
  have M2 := Aside0.mk m2
  clear l1 l2 m1 m2 z1 z2 z3 z4
  go_wp2_with (first
    | (go_at_call 48; refine (tree pub g s h (u + 1) w0 w6 HI6.out HB6.out HP.out).mono ?_; rintro e w7 ⟨A7, cp7, rfl, hC, hc, hI7, hB7, hK7⟩; have HI7 := Aside0.mk hI7; have HB7 := Aside0.mk hB7; have HK7 := Aside0.mk (HK6.out.trans hK7 (.inl rfl)); obtain ⟨cs_, hcs_⟩ := HI6.out.blk; have HV7 := Aside0.mk (Kd.R_keep (g := g) (Kd.R_types HV.out hcs_ (by decide)) hK7 (fun _ hk => hk.2)); clear hcs_; have HC7 := Aside0.mk hC; have Hc7 := Aside0.mk hc; clear HI6 HB6 HK6 HV hI7 hB7 hK7 hC hc)
    | (go_at_call 53; (with_reducible refine (Jz.calls k4 _ _ (lv pub s h) u (pathK s h u) true _ HC7.out Hc7.out (Kd.C_below HRG.out HB7.out) HT.out).mono ?_); rintro e w8 ⟨vT, rfl, ho, hb⟩; have HI8 := Aside0.mk (HI7.out.below hb); have HB8 := Aside0.mk (below_step HB7.out hb); have HK8 := Aside0.mk (HK7.out.trans (KeepBut.of_below hb g none) (.inl rfl)); have HV8 := Aside0.mk (Kd.R_below HV7.out hb); have HT8 := Aside0.mk ho; clear HI7 HB7 HK7 HV7 HC7 Hc7 hb ho)
    | (go_at_call 54; refine (Jn.join vS (valsK s u m) w8 HV8.out (by rw [L1.out]; decide) M1.out).mono ?_; rintro e w9 ⟨rfl, hb⟩; have HI9 := Aside0.mk (HI8.out.below hb); have HB9 := Aside0.mk (below_step HB8.out hb); have HK9 := Aside0.mk (HK8.out.trans (KeepBut.of_below hb g none) (.inl rfl)); have HT9 := Aside0.mk (Kd.R_below HT8.out hb); clear HI8 HB8 HK8 HV8 HT8 hb)
    | (go_at_call 54; refine (Jn.join vT (pathK s h u) w9 HT9.out L2.out M2.out).mono ?_; rintro e w10 ⟨rfl, hb⟩; have HI10 := Aside0.mk (HI9.out.below hb); have HB10 := Aside0.mk (below_step HB9.out hb); have HK10 := Aside0.mk (HK9.out.trans (KeepBut.of_below hb g none) (.inl rfl)); clear HI9 HB9 HK9 HT9 hb))
  go_ret2
  exact ⟨rfl, HI10.out, HB10.out, HK10.out⟩
end Go.Proofs.YtdodghifojkclaaGreatDoor.KeyO
