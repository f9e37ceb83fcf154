-- WRITTEN BY a program of this work (wip/ownprint.py), for this seat
import Derived.Test.YtjpjhbgdaflmgaaPPx0
import Derived.Test.YtjpjhbgdaflmgaaPPx2
import Derived.Test.YtjpjhbgdaflmgaaPPx3
import Derived.Test.YtjpjhbgdaflmgaaPPx4
namespace Go.Proofs.Ytjpjhbgdaflmgaa.PP
open Go.RowKit Go.Proofs.YtjpjhbgdaflmgaaW.PrintWords Go.Proofs.YtjpjhbgdaflmgaaW.PrintLast Go.Proofs.YtjpjhbgdaflmgaaW.PrintMore
attribute [local go_sem] max2_int min2_int max_two min_two max_three min_three max_four min_four   -- for this text's walks alone
set_option linter.unusedVariables false
set_option linter.unusedSimpArgs false

/-! ### palaverref14_Make: function 16 -/
mutual
def palaverref14_Make.l0 : Nat → List ByteArray → Int → Int → Option (ByteArray)
  | 0, _, _, _ => none
  | k + 1, x0, x3, x4 => if x4 < (x0.length : Int) then (if 0 ≤ x4 then (if ((rdOf ByteArray.empty x0 x4).size : Int) = 32 then (palaverref14_Make.l0 k x0 (wrap64 (x3 + 1)) (wrap64 (x4 + 1))) else (palaverref14_Make.l0 k x0 x3 (wrap64 (x4 + 1)))) else (none)) else ((palaverref14_Size.f k x3).bind fun t174 => (if 0 ≤ t174 then (if (t174 : Int).toNat ≤ 281474976710656 then (palaverref14_Make.l1 k x0 t174 (List.replicate (t174 : Int).toNat false) 0) else (none)) else (none)))
def palaverref14_Make.l1 : Nat → List ByteArray → Int → List Bool → Int → Option (ByteArray)
  | 0, _, _, _, _ => none
  | k + 1, x0, x5, x6, x7 => if x7 < (x0.length : Int) then (if 0 ≤ x7 then ((palaverref14_Places.f k (rdOf ByteArray.empty x0 x7) x5).bind fun t179 => (palaverref14_Make.l2 k x0 x5 x6 x7 t179 0)) else (none)) else (if 0 ≤ (wrap64 (Int.tdiv x5 8)) then (if (wrap64 (Int.tdiv x5 8) : Int).toNat ≤ 281474976710656 then (palaverref14_Make.l3 k x5 x6 (List.replicate (wrap64 (Int.tdiv x5 8) : Int).toNat 0) 0) else (none)) else (none))
def palaverref14_Make.l2 : Nat → List ByteArray → Int → List Bool → Int → List Int → Int → Option (ByteArray)
  | 0, _, _, _, _, _, _ => none
  | k + 1, x0, x5, x6, x7, x8, x9 => if x9 < (x8.length : Int) then (if 0 ≤ x9 then (if 0 ≤ (rd x8 x9) then (if (rd x8 x9) < (x6.length : Int) then (palaverref14_Make.l2 k x0 x5 (x6.set ((rd x8 x9) : Int).toNat true) x7 x8 (wrap64 (x9 + 1))) else (none)) else (none)) else (none)) else (palaverref14_Make.l1 k x0 x5 x6 (wrap64 (x7 + 1)))
def palaverref14_Make.l3 : Nat → Int → List Bool → List Int → Int → Option (ByteArray)
  | 0, _, _, _, _ => none
  | k + 1, x5, x6, x10, x11 => if x11 < x5 then (if 0 ≤ x11 then (if x11 < (x6.length : Int) then (if rdOf false x6 x11 = true then (if 0 ≤ (wrap64 (Int.tdiv x11 8)) then (if (wrap64 (Int.tdiv x11 8)) < (x10.length : Int) then (if 0 ≤ (Int.tmod x11 8) then (palaverref14_Make.l3 k x5 x6 (x10.set ((wrap64 (Int.tdiv x11 8)) : Int).toNat (((rd x10 (wrap64 (Int.tdiv x11 8))) + (shl .u8 1 (Int.tmod x11 8))) % 256)) (wrap64 (x11 + 1))) else (none)) else (none)) else (none)) else (palaverref14_Make.l3 k x5 x6 x10 (wrap64 (x11 + 1)))) else (none)) else (none)) else (some (strOfNums x10))
end
def palaverref14_Make.f (k : Nat) (l0 : List ByteArray) : Option (ByteArray) := palaverref14_Make.l0 k l0 0 0
theorem palaverref14_Make.mono_l : ∀ k, (∀ y0 y1 y2, LeO (palaverref14_Make.l0 k y0 y1 y2) (palaverref14_Make.l0 (k + 1) y0 y1 y2)) ∧ (∀ y0 y1 y2 y3, LeO (palaverref14_Make.l1 k y0 y1 y2 y3) (palaverref14_Make.l1 (k + 1) y0 y1 y2 y3)) ∧ (∀ y0 y1 y2 y3 y4 y5, LeO (palaverref14_Make.l2 k y0 y1 y2 y3 y4 y5) (palaverref14_Make.l2 (k + 1) y0 y1 y2 y3 y4 y5)) ∧ (∀ y0 y1 y2 y3, LeO (palaverref14_Make.l3 k y0 y1 y2 y3) (palaverref14_Make.l3 (k + 1) y0 y1 y2 y3))
  | 0 => ⟨fun _ _ _ r h => by simp [palaverref14_Make.l0] at h, fun _ _ _ _ r h => by simp [palaverref14_Make.l1] at h, fun _ _ _ _ _ _ r h => by simp [palaverref14_Make.l2] at h, fun _ _ _ _ r h => by simp [palaverref14_Make.l3] at h⟩
  | k + 1 => by
    obtain ⟨ih0, ih1, ih2, ih3⟩ := palaverref14_Make.mono_l k
    refine ⟨?_, ?_, ?_, ?_⟩
    · intro y0 y1 y2
      unfold palaverref14_Make.l0
      repeat' first
      | (with_reducible exact ih0 _ _ _)
      | (with_reducible exact ih1 _ _ _ _)
      | (with_reducible exact ih2 _ _ _ _ _ _)
      | (with_reducible exact ih3 _ _ _ _)
      | (with_reducible exact palaverref14_Places.mono _ _ _)
      | (with_reducible exact palaverref14_Size.mono _ _)
      | (with_reducible exact LeO.refl _)
      | (with_reducible exact LeO.none _)
      | (with_reducible refine LeO.ite ?_ ?_)
      | (with_reducible refine LeO.bind ?_ (fun _ => ?_))
      | exact ih0 _ _ _
      | exact ih1 _ _ _ _
      | exact ih2 _ _ _ _ _ _
      | exact ih3 _ _ _ _
      | exact palaverref14_Places.mono _ _ _
      | exact palaverref14_Size.mono _ _
      | exact LeO.none _
      | refine LeO.ite ?_ ?_
      | refine LeO.bind ?_ (fun _ => ?_)
    · intro y0 y1 y2 y3
      unfold palaverref14_Make.l1
      repeat' first
      | (with_reducible exact ih0 _ _ _)
      | (with_reducible exact ih1 _ _ _ _)
      | (with_reducible exact ih2 _ _ _ _ _ _)
      | (with_reducible exact ih3 _ _ _ _)
      | (with_reducible exact palaverref14_Places.mono _ _ _)
      | (with_reducible exact palaverref14_Size.mono _ _)
      | (with_reducible exact LeO.refl _)
      | (with_reducible exact LeO.none _)
      | (with_reducible refine LeO.ite ?_ ?_)
      | (with_reducible refine LeO.bind ?_ (fun _ => ?_))
      | exact ih0 _ _ _
      | exact ih1 _ _ _ _
      | exact ih2 _ _ _ _ _ _
      | exact ih3 _ _ _ _
      | exact palaverref14_Places.mono _ _ _
      | exact palaverref14_Size.mono _ _
      | exact LeO.none _
      | refine LeO.ite ?_ ?_
      | refine LeO.bind ?_ (fun _ => ?_)
    · intro y0 y1 y2 y3 y4 y5
      unfold palaverref14_Make.l2
      repeat' first
      | (with_reducible exact ih0 _ _ _)
      | (with_reducible exact ih1 _ _ _ _)
      | (with_reducible exact ih2 _ _ _ _ _ _)
      | (with_reducible exact ih3 _ _ _ _)
      | (with_reducible exact palaverref14_Places.mono _ _ _)
      | (with_reducible exact palaverref14_Size.mono _ _)
      | (with_reducible exact LeO.refl _)
      | (with_reducible exact LeO.none _)
      | (with_reducible refine LeO.ite ?_ ?_)
      | (with_reducible refine LeO.bind ?_ (fun _ => ?_))
      | exact ih0 _ _ _
      | exact ih1 _ _ _ _
      | exact ih2 _ _ _ _ _ _
      | exact ih3 _ _ _ _
      | exact palaverref14_Places.mono _ _ _
      | exact palaverref14_Size.mono _ _
      | exact LeO.none _
      | refine LeO.ite ?_ ?_
      | refine LeO.bind ?_ (fun _ => ?_)
    · intro y0 y1 y2 y3
      unfold palaverref14_Make.l3
      repeat' first
      | (with_reducible exact ih0 _ _ _)
      | (with_reducible exact ih1 _ _ _ _)
      | (with_reducible exact ih2 _ _ _ _ _ _)
      | (with_reducible exact ih3 _ _ _ _)
      | (with_reducible exact palaverref14_Places.mono _ _ _)
      | (with_reducible exact palaverref14_Size.mono _ _)
      | (with_reducible exact LeO.refl _)
      | (with_reducible exact LeO.none _)
      | (with_reducible refine LeO.ite ?_ ?_)
      | (with_reducible refine LeO.bind ?_ (fun _ => ?_))
      | exact ih0 _ _ _
      | exact ih1 _ _ _ _
      | exact ih2 _ _ _ _ _ _
      | exact ih3 _ _ _ _
      | exact palaverref14_Places.mono _ _ _
      | exact palaverref14_Size.mono _ _
      | exact LeO.none _
      | refine LeO.ite ?_ ?_
      | refine LeO.bind ?_ (fun _ => ?_)
theorem palaverref14_Make.mono : ∀ a0 k, LeO (palaverref14_Make.f k a0) (palaverref14_Make.f (k + 1) a0) := by
  intro a0 k
  obtain ⟨ih0, ih1, ih2, ih3⟩ := palaverref14_Make.mono_l k
  unfold palaverref14_Make.f
  repeat' first
      | (with_reducible exact ih0 _ _ _)
      | (with_reducible exact ih1 _ _ _ _)
      | (with_reducible exact ih2 _ _ _ _ _ _)
      | (with_reducible exact ih3 _ _ _ _)
      | (with_reducible exact palaverref14_Places.mono _ _ _)
      | (with_reducible exact palaverref14_Size.mono _ _)
      | (with_reducible exact LeO.refl _)
      | (with_reducible exact LeO.none _)
      | (with_reducible refine LeO.ite ?_ ?_)
      | (with_reducible refine LeO.bind ?_ (fun _ => ?_))
      | exact ih0 _ _ _
      | exact ih1 _ _ _ _
      | exact ih2 _ _ _ _ _ _
      | exact ih3 _ _ _ _
      | exact palaverref14_Places.mono _ _ _
      | exact palaverref14_Size.mono _ _
      | exact LeO.none _
      | refine LeO.ite ?_ ?_
      | refine LeO.bind ?_ (fun _ => ?_)
def palaverref14_Make.T22 : Bool × List (List Nat × List Nat) := (true, [([], []), ([], []), ([1], [1]), ([], []), ([], []), ([4], [4]), ([3, 5], [3, 5]), ([6], [6]), ([], []), ([8], [8]), ([9], [9]), ([7, 10], [7, 10]), ([0, 2, 0, 1, 2, 3, 4, 5, 6, 7, 8, 9, 10, 11], [0, 2]), ([12, 11, 0, 1, 2, 3, 4, 5, 6, 7, 8, 9, 10, 11], [11, 12])])
def palaverref14_Make.B22 : List Nat := [0, 0, 2, 0, 0, 16, 56, 120, 0, 256, 768, 2040, 4095, 8191]
theorem palaverref14_Make.tab22 : rtab .any (opsOf Try.f16 22) = palaverref14_Make.T22 := by kernel_rfl
theorem palaverref14_Make.bits22 : waitsOk palaverref14_Make.T22.2 palaverref14_Make.B22 = true := by kernel_rfl
set_option maxHeartbeats 8000000 in
set_option maxRecDepth 100000 in
theorem palaverref14_Make.calls (k : Nat) (A0 : Option Addr) (c0 : Nat) (l0 : List ByteArray) (r : ByteArray) (w : World) (hr0 : Kd.C Kd.string w A0 l0.length l0) (hc0 : l0.length ≤ c0) (h : palaverref14_Make.f k l0 = some r) :
    Calls Try.prog 16 #[.slice A0 l0.length c0] w fun e w' => e = .returned (.string r) ∧ Below w.heap.size w w' := by
  have HR0 := Aside0.mk hr0
  have HC0 := Aside0.mk hc0
  clear hr0 hc0
  have HB := Aside0.mk (Below.refl w.heap.size w)
  have H : (palaverref14_Make.l0 k l0 0 0) = some r := h
  clear h
  have H' := Aside0.mk H
  clear H
  go_enter Try.func16, Try.ntmps16
  go_wp2
  go_loopg [3, 4] k (fun kq v3 v4 w' => ∃ (x3_1 : Int) (x4_1 : Int), v3 = .int .i64 x3_1 ∧ v4 = .int .i64 x4_1 ∧ Aside0 (palaverref14_Make.l0 kq l0 x3_1 x4_1 = some r) ∧ Aside0 (kq ≤ k) ∧ Aside0 (Below w.heap.size w w'))
  case atStart => exact ⟨(0), (0), (by first | rfl | (simp; done) | (simp [*]; done)), (by first | rfl | (simp; done) | (simp [*]; done)), H', ⟨Nat.le_refl _⟩, ⟨by repeat (first | (with_reducible first | exact HB.out | apply below_alloc | apply pw_below_drewN | apply below_drew1) | exact HB.out)⟩⟩
  case round =>
    clear H'
    try clear c1
    obtain ⟨x3_1, x4_1, rfl, rfl, HA, HK1, HB⟩ := hrel
    cases gk with
    | zero => exact absurd HA.out (by simp [palaverref14_Make.l0])
    | succ k1 =>
      have H := HA.out
      clear HA
      simp only [palaverref14_Make.l0] at H
      by_cases c2 : x4_1 < (l0.length : Int)
      · rw [if_pos c2] at H
        have c2b0 : decide (x4_1 < (l0.length : Int)) = true := decide_eq_true c2
        clear c2
        by_cases c3 : 0 ≤ x4_1
        · rw [if_pos c3] at H
          have c3b0 : decide (0 ≤ x4_1) = true := decide_eq_true c3
          clear c3
          by_cases c4 : ((rdOf ByteArray.empty l0 x4_1).size : Int) = 32
          · rw [if_pos c4] at H
            have c4b0 : (((rdOf ByteArray.empty l0 x4_1).size : Int) == 32) = true := beq_iff_eq.mpr c4
            have c4b1 : (((rdOf ByteArray.empty l0 x4_1).size : Int) != 32) = false := bne_eq_false_iff_eq.mpr c4
            clear c4
            have H' := Aside0.mk H
            clear H
            have p173 : 0 ≤ (x4_1 : Int) := of_decide_eq_true (by first | (with_reducible assumption) | assumption)
            have q173 : x4_1 < (l0.length : Int) := of_decide_eq_true (by first | (with_reducible assumption) | assumption)
            obtain ⟨ad173, e173, hx173_0⟩ := Kd.at_string HR0.out x4_1 p173 q173
            cases e173
            replace hx173_0 := (HB.out.cell (World.block_lt_of_cell? w _ hx173_0)).trans hx173_0
            replace p173 := eq_true p173
            replace q173 := eq_true q173
            go_wp2
            go_roundg k1
            case measure => have := HK1.out; omega
            case rel => exact ⟨(wrap64 (x3_1 + 1)), (wrap64 (x4_1 + 1)), (by first | rfl | (simp; done) | (simp [*]; done)), (by first | rfl | (simp; done) | (simp [*]; done)), H', ⟨by have := HK1.out; omega⟩, ⟨by repeat (first | (with_reducible first | exact HB.out | apply below_alloc | apply pw_below_drewN | apply below_drew1) | exact HB.out)⟩⟩
          · rw [if_neg c4] at H
            have c4b0 : (((rdOf ByteArray.empty l0 x4_1).size : Int) == 32) = false := beq_eq_false_iff_ne.mpr c4
            have c4b1 : (((rdOf ByteArray.empty l0 x4_1).size : Int) != 32) = true := bne_iff_ne.mpr c4
            have H' := Aside0.mk H
            clear H
            have p173 : 0 ≤ (x4_1 : Int) := of_decide_eq_true (by first | (with_reducible assumption) | assumption)
            have q173 : x4_1 < (l0.length : Int) := of_decide_eq_true (by first | (with_reducible assumption) | assumption)
            obtain ⟨ad173, e173, hx173_0⟩ := Kd.at_string HR0.out x4_1 p173 q173
            cases e173
            replace hx173_0 := (HB.out.cell (World.block_lt_of_cell? w _ hx173_0)).trans hx173_0
            replace p173 := eq_true p173
            replace q173 := eq_true q173
            go_wp2
            go_roundg k1
            case measure => have := HK1.out; omega
            case rel => exact ⟨(x3_1), (wrap64 (x4_1 + 1)), (by first | rfl | (simp; done) | (simp [*]; done)), (by first | rfl | (simp; done) | (simp [*]; done)), H', ⟨by have := HK1.out; omega⟩, ⟨by repeat (first | (with_reducible first | exact HB.out | apply below_alloc | apply pw_below_drewN | apply below_drew1) | exact HB.out)⟩⟩
        · rw [if_neg c3] at H
          exact absurd H (by simp)
      · rw [if_neg c2] at H
        have c2b0 : decide (x4_1 < (l0.length : Int)) = false := decide_eq_false c2
        clear c2
        replace H := Option.bind_eq_some_iff.mp H
        obtain ⟨t174, A50, H⟩ := H
        replace H : (if 0 ≤ t174 then (if (t174 : Int).toNat ≤ 281474976710656 then (palaverref14_Make.l1 k1 l0 t174 (List.replicate (t174 : Int).toNat false) 0) else (none)) else (none)) = some r := H
        have A5 := Aside0.mk A50
        clear A50
        by_cases c6 : 0 ≤ t174
        · rw [if_pos c6] at H
          have c6b0 := eq_true c6
          have c6b1 : decide (0 ≤ t174) = true := decide_eq_true c6
          clear c6
          by_cases c7 : (t174 : Int).toNat ≤ 281474976710656
          · rw [if_pos c7] at H
            have c7b0 := eq_true c7
            have c7b1 : decide ((t174 : Int).toNat ≤ 281474976710656) = true := decide_eq_true c7
            clear c7
            obtain ⟨y175, hy175⟩ : ∃ y_ : List Bool, y_ = (List.replicate (t174 : Int).toNat false) := ⟨_, rfl⟩
            replace H : (palaverref14_Make.l1 k1 l0 t174 y175 0) = some r := by first | (rw [hy175]; with_reducible exact H) | (have H2_ := (Option.bind_some _ _).symm.trans H; rw [hy175]; with_reducible exact H2_) | (have H2_ := (Option.bind_some _ _).symm.trans H; with_reducible exact H2_) | with_reducible exact H | (rw [hy175]; exact H) | exact H
            have Ny175 := Aside0.mk hy175
            clear hy175
            have H' := Aside0.mk H
            clear H
            go_wp2_with (first | ((with_reducible refine gate_callee (f := 13) rfl ?_); refine goesL_ (some 27) rfl rfl Try.func13 (by kernel_rfl) rfl #[.int .i64 x3_1] rfl (by (try simp only [List.map_toArray, List.map_cons, List.map_nil]); first | done | rfl | (simp only [List.length_drop, List.length_take]; rfl)) ?_; (with_reducible refine (palaverref14_Size.calls k1 x3_1 t174 _ A5.out).mono ?_); rintro e w' ⟨rfl, ⟨nd, rfl⟩⟩; refine ⟨_, rfl, ?_⟩) | ((with_reducible refine gate_dst (N := 29) rfl ?_); refine Kd.R_make Kd.bool _ 4 rfl (N := 29) rfl 39 _ _ rfl t174 rfl rfl Try.underlying39 (.bool false) 1 info4 rfl (by decide) (by omega) false (ok := fun _ => True) (okp := fun _ => True) rfl (fun _ hk => hk) trivial (of_decide_eq_true (by first | (with_reducible assumption) | assumption)) (Nat.le_trans (Nat.mul_le_mul_right _ (of_decide_eq_true (by first | (with_reducible assumption) | assumption) : t174.toNat ≤ 281474976710656)) (by omega)) (Below.refl _ _) (Nat.le_refl _) ?_; intro v176 w8 ho9 hb hg_ hnew_; clear hg_ hnew_; (first | rw [← Ny175.out] at ho9 | (simp only [Int.reduceToNat] at ho9; rw [← Ny175.out] at ho9)); have n0_ := Aside0.mk (Kd.R_lower ho9 (below_size (by repeat (first | (with_reducible first | exact HB.out | apply below_alloc | apply pw_below_drewN | apply below_drew1) | exact HB.out)))); have n1_ := Aside0.mk (below_step (by repeat (first | (with_reducible first | exact HB.out | apply below_alloc | apply pw_below_drewN | apply below_drew1) | exact HB.out)) hb); clear HB; have HO177 := n0_; have HB := n1_; clear n0_ n1_; clear hb ho9))
            go_loopg [7] k1 (fun kq v7 w' => ∃ (x6_2 : List Bool) (x7_2 : Int), v7 = .int .i64 x7_2 ∧ Aside0 (palaverref14_Make.l1 kq l0 t174 x6_2 x7_2 = some r) ∧ Aside0 (kq ≤ k1) ∧ Aside0 (Kd.R Kd.bool 4 w' w.heap.size (fun _ => True) v176 x6_2) ∧ Aside0 (Below w.heap.size w w'))
            case atStart => exact ⟨(y175), (0), (by first | rfl | (simp; done) | (simp [*]; done)), H', ⟨Nat.le_refl _⟩, ⟨by (with_reducible repeat (first | apply Kd.R_alloc | apply Kd.R_drewN | apply Kd.R_drew)); exact HO177.out⟩, ⟨by repeat (first | (with_reducible first | exact HB.out | apply below_alloc | apply pw_below_drewN | apply below_drew1) | exact HB.out)⟩⟩
            case round =>
              clear H'
              try clear c1
              try clear p1
              try clear q1
              try clear hx1
              try clear c2
              try clear c2b0
              try clear p2
              try clear c3
              try clear c3b0
              try clear c4
              try clear c4b0
              try clear c4b1
              try clear c6
              try clear c6b0
              try clear c6b1
              try clear p6
              try clear c7
              try clear c7b0
              try clear c7b1
              try clear hx173_0
              try clear p173
              try clear q173
              obtain ⟨x6_2, x7_2, rfl, HA, HK2, HO_6, HB⟩ := hrel
              cases gk with
              | zero => exact absurd HA.out (by simp [palaverref14_Make.l1])
              | succ k2 =>
                have H := HA.out
                clear HA
                simp only [palaverref14_Make.l1] at H
                by_cases c10 : x7_2 < (l0.length : Int)
                · rw [if_pos c10] at H
                  have c10b0 : decide (x7_2 < (l0.length : Int)) = true := decide_eq_true c10
                  clear c10
                  by_cases c11 : 0 ≤ x7_2
                  · rw [if_pos c11] at H
                    have c11b0 : decide (0 ≤ x7_2) = true := decide_eq_true c11
                    clear c11
                    replace H := Option.bind_eq_some_iff.mp H
                    obtain ⟨t179, A120, H⟩ := H
                    replace H : (palaverref14_Make.l2 k2 l0 t174 x6_2 x7_2 t179 0) = some r := H
                    have A12 := Aside0.mk A120
                    clear A120
                    have H' := Aside0.mk H
                    clear H
                    have p178 : 0 ≤ (x7_2 : Int) := of_decide_eq_true (by first | (with_reducible assumption) | assumption)
                    have q178 : x7_2 < (l0.length : Int) := of_decide_eq_true (by first | (with_reducible assumption) | assumption)
                    obtain ⟨ad178, e178, hx178_0⟩ := Kd.at_string HR0.out x7_2 p178 q178
                    cases e178
                    replace hx178_0 := (HB.out.cell (World.block_lt_of_cell? w _ hx178_0)).trans hx178_0
                    replace p178 := eq_true p178
                    replace q178 := eq_true q178
                    go_wp2_with (first | ((with_reducible refine gate_callee (f := 11) rfl ?_); refine goesL_ (some 41) rfl rfl Try.func11 (by kernel_rfl) rfl #[.string (rdOf ByteArray.empty l0 x7_2), .int .i64 t174] rfl (by (try simp only [List.map_toArray, List.map_cons, List.map_nil]); first | done | rfl | (simp only [List.length_drop, List.length_take]; rfl)) ?_; (with_reducible refine (palaverref14_Places.calls k2 (rdOf ByteArray.empty l0 x7_2) t174 t179 _ A12.out).mono ?_); rintro e w13 ⟨v180, rfl, ho0, hb⟩; refine ⟨_, rfl, ?_⟩; have n0_ := Aside0.mk (Kd.R_below (by (with_reducible repeat (first | apply Kd.R_alloc | apply Kd.R_drewN | apply Kd.R_drew)); exact HO_6.out) hb); have n1_ := Aside0.mk (Kd.R_lower ho0 (below_size (by repeat (first | (with_reducible first | exact HB.out | apply below_alloc | apply pw_below_drewN | apply below_drew1) | exact HB.out)))); have n2_ := Aside0.mk (below_step (by repeat (first | (with_reducible first | exact HB.out | apply below_alloc | apply pw_below_drewN | apply below_drew1) | exact HB.out)) hb); clear HO_6; clear HB; have HO_6 := n0_; have HO181 := n1_; have HB := n2_; clear n0_ n1_ n2_; (try clear hb); (try clear hb2); (try clear hk); (try clear hi); (try clear ho0)))
                    go_loopg [9] k2 (fun kq v9 w' => ∃ (x6_3 : List Bool) (x9_3 : Int), v9 = .int .i64 x9_3 ∧ Aside0 (palaverref14_Make.l2 kq l0 t174 x6_3 x7_2 t179 x9_3 = some r) ∧ Aside0 (kq ≤ k2) ∧ Aside0 (Kd.R Kd.bool 4 w' w.heap.size (fun _ => True) v176 x6_3) ∧ Aside0 (Kd.R (Kd.int .i64) 3 w' w.heap.size (fun _ => True) v180 t179) ∧ Aside0 (Below w.heap.size w w'))
                    case atStart => exact ⟨(x6_2), (0), (by first | rfl | (simp; done) | (simp [*]; done)), H', ⟨Nat.le_refl _⟩, ⟨by (with_reducible repeat (first | apply Kd.R_alloc | apply Kd.R_drewN | apply Kd.R_drew)); exact HO_6.out⟩, ⟨by (with_reducible repeat (first | apply Kd.R_alloc | apply Kd.R_drewN | apply Kd.R_drew)); exact HO181.out⟩, ⟨by repeat (first | (with_reducible first | exact HB.out | apply below_alloc | apply pw_below_drewN | apply below_drew1) | exact HB.out)⟩⟩
                    case round =>
                      clear H'
                      try clear c1
                      try clear p1
                      try clear q1
                      try clear hx1
                      try clear c2
                      try clear c2b0
                      try clear p2
                      try clear c3
                      try clear c3b0
                      try clear c4
                      try clear c4b0
                      try clear c4b1
                      try clear c6
                      try clear c6b0
                      try clear c6b1
                      try clear p6
                      try clear c7
                      try clear c7b0
                      try clear c7b1
                      try clear c10
                      try clear c10b0
                      try clear c11
                      try clear c11b0
                      try clear c13
                      try clear hx173_0
                      try clear hx178_0
                      try clear p1
                      try clear p173
                      try clear p178
                      try clear p2
                      try clear p6
                      try clear q1
                      try clear q173
                      try clear q178
                      obtain ⟨x6_3, x9_3, rfl, HA, HK3, HO_6, HO_8, HB⟩ := hrel
                      cases gk with
                      | zero => exact absurd HA.out (by simp [palaverref14_Make.l2])
                      | succ k3 =>
                        have H := HA.out
                        clear HA
                        simp only [palaverref14_Make.l2] at H
                        by_cases c14 : x9_3 < (t179.length : Int)
                        · rw [if_pos c14] at H
                          have c14b0 : decide (x9_3 < (t179.length : Int)) = true := decide_eq_true c14
                          clear c14
                          by_cases c15 : 0 ≤ x9_3
                          · rw [if_pos c15] at H
                            have c15b0 : decide (0 ≤ x9_3) = true := decide_eq_true c15
                            clear c15
                            by_cases c16 : 0 ≤ (rd t179 x9_3)
                            · rw [if_pos c16] at H
                              have c16b0 : decide (0 ≤ (rd t179 x9_3)) = true := decide_eq_true c16
                              clear c16
                              by_cases c17 : (rd t179 x9_3) < (x6_3.length : Int)
                              · rw [if_pos c17] at H
                                have c17b0 : decide ((rd t179 x9_3) < (x6_3.length : Int)) = true := decide_eq_true c17
                                clear c17
                                obtain ⟨y183, hy183⟩ : ∃ y_ : List Bool, y_ = (x6_3.set ((rd t179 x9_3) : Int).toNat true) := ⟨_, rfl⟩
                                replace H : (palaverref14_Make.l2 k3 l0 t174 y183 x7_2 t179 (wrap64 (x9_3 + 1))) = some r := by first | (rw [hy183]; with_reducible exact H) | (have H2_ := (Option.bind_some _ _).symm.trans H; rw [hy183]; with_reducible exact H2_) | (have H2_ := (Option.bind_some _ _).symm.trans H; with_reducible exact H2_) | with_reducible exact H | (rw [hy183]; exact H) | exact H
                                have Ny183 := Aside0.mk hy183
                                clear hy183
                                have H' := Aside0.mk H
                                clear H
                                obtain ⟨Ao19, co19, eo19⟩ := Kd.R_slice HO_8.out
                                subst eo19
                                have p182 : 0 ≤ (x9_3 : Int) := of_decide_eq_true (by first | (with_reducible assumption) | assumption)
                                have q182 : x9_3 < (t179.length : Int) := of_decide_eq_true (by first | (with_reducible assumption) | assumption)
                                obtain ⟨ad182, e182, hx182_0⟩ := Kd.at_int (Kd.R_reads' HO_8.out).2.2 x9_3 p182 q182
                                cases e182
                                replace p182 := eq_true p182
                                replace q182 := eq_true q182
                                have p18 : 0 ≤ ((rd t179 x9_3) : Int) := of_decide_eq_true (by first | (with_reducible assumption) | assumption)
                                have q18 : ((rd t179 x9_3) : Int) < ((x6_3.length : Int) : Int) := of_decide_eq_true (by first | (with_reducible assumption) | assumption)
                                obtain ⟨go18, co18, eo18, gb18, gl18, cl18, HG18⟩ := Kd.R_form HO_6.out (by omega)
                                (first | cases eo18 | (injection eo18 with ea_ en_ ec_; (first | subst ea_ | (injection ea_ with ea_; subst ea_)); subst ec_; clear en_))
                                have GB18 := Aside0.mk gb18
                                have GG18 := Aside0.mk HG18
                                clear gb18 gl18 HG18
                                obtain ⟨hx18_0, hf18_0⟩ := Kd.R_celln false HO_6.out ((rd t179 x9_3) : Int) p18 q18
                                replace p18 := eq_true p18
                                replace q18 := eq_true q18
                                have HP20 := Kd.R_putg HO_6.out ((rd t179 x9_3) : Int) true
                                go_wp2_with (first | ((with_reducible refine gate_store (t := 4) (p := 53) rfl ?_); refine store_event (t := 4) (p := 53) (v := ?vo_w21) (w1 := (wr.setCell ⟨go18, ((rd t179 x9_3) : Int).toNat, none⟩ (.bool true))) ?hg ?ho ?hn ?hr ?_; (case ho => rfl); (case hg => rfl); (case hn => rfl); (case hr => first | (go_simp; done) | (go_simp; rfl)); intro w21 hw; have hg : wr.grownBy w21 (some go18) := (by rw [hw]; exact HP20.2); have hp_ : Kd.R Kd.bool 4 w21 w.heap.size (fun _ => True) (.slice (some ⟨go18, 0, none⟩) x6_3.length co18) y183 := (by rw [hw, Ny183.out]; exact HP20.1); clear HP20; have n0_ := Aside0.mk (hp_); have n1_ := Aside0.mk (Kd.R_over' (v := (.slice (some ⟨go18, 0, none⟩) x6_3.length co18)) (by (with_reducible repeat (first | apply Kd.R_alloc | apply Kd.R_drewN | apply Kd.R_drew)); exact HO_8.out) (Kd.R_typed HO_6.out) (by decide) hg); have n2_ := Aside0.mk ((by rw [hw]; exact below_set (HB.out) GB18.out : Below w.heap.size w w21)); clear HO_6; clear HO_8; clear HB; have HO_6 := n0_; have HO_8 := n1_; have HB := n2_; clear n0_ n1_ n2_; clear hg hw hp_))
                                go_roundg k3
                                case measure => have := HK1.out; have := HK2.out; have := HK3.out; omega
                                case rel => exact ⟨(y183), (wrap64 (x9_3 + 1)), (by first | rfl | (simp; done) | (simp [*]; done)), H', ⟨by have := HK1.out; have := HK2.out; have := HK3.out; omega⟩, ⟨by (with_reducible repeat (first | apply Kd.R_alloc | apply Kd.R_drewN | apply Kd.R_drew)); exact HO_6.out⟩, ⟨by (with_reducible repeat (first | apply Kd.R_alloc | apply Kd.R_drewN | apply Kd.R_drew)); exact HO_8.out⟩, ⟨by repeat (first | (with_reducible first | exact HB.out | apply below_alloc | apply pw_below_drewN | apply below_drew1) | exact HB.out)⟩⟩
                              · rw [if_neg c17] at H
                                exact absurd H (by simp)
                            · rw [if_neg c16] at H
                              exact absurd H (by simp)
                          · rw [if_neg c15] at H
                            exact absurd H (by simp)
                        · rw [if_neg c14] at H
                          have c14b0 : decide (x9_3 < (t179.length : Int)) = false := decide_eq_false c14
                          clear c14
                          have H' := Aside0.mk H
                          clear H
                          obtain ⟨Ao22, co22, eo22⟩ := Kd.R_slice HO_8.out
                          subst eo22
                          go_wp2
                          go_roundg k3
                          case measure => have := HK1.out; have := HK2.out; have := HK3.out; omega
                          case rel => exact ⟨(x6_3), (wrap64 (x7_2 + 1)), (by first | rfl | (simp; done) | (simp [*]; done)), H', ⟨by have := HK1.out; have := HK2.out; have := HK3.out; omega⟩, ⟨by (with_reducible repeat (first | apply Kd.R_alloc | apply Kd.R_drewN | apply Kd.R_drew)); exact HO_6.out⟩, ⟨by repeat (first | (with_reducible first | exact HB.out | apply below_alloc | apply pw_below_drewN | apply below_drew1) | exact HB.out)⟩⟩
                  · rw [if_neg c11] at H
                    exact absurd H (by simp)
                · rw [if_neg c10] at H
                  have c10b0 : decide (x7_2 < (l0.length : Int)) = false := decide_eq_false c10
                  clear c10
                  obtain ⟨ji23, hji23⟩ : ∃ j_ : Int, (wrap64 (Int.tdiv t174 8)) = j_ := ⟨_, rfl⟩
                  replace H : (if 0 ≤ (ji23) then (if (ji23 : Int).toNat ≤ 281474976710656 then (palaverref14_Make.l3 k2 t174 x6_2 (List.replicate (ji23 : Int).toNat 0) 0) else (none)) else (none)) = some r := by first | (rw [hji23] at H; exact H) | (simp only [hji23] at H ⊢; exact H)
                  have hji23w : (IntKind.i64.wrap (Int.tdiv t174 8)) = ji23 := (i64_w _).trans hji23
                  by_cases c24 : 0 ≤ (ji23)
                  · rw [if_pos c24] at H
                    have c24b0 := eq_true c24
                    have c24b1 : decide (0 ≤ (ji23)) = true := decide_eq_true c24
                    clear c24
                    by_cases c25 : (ji23 : Int).toNat ≤ 281474976710656
                    · rw [if_pos c25] at H
                      have c25b0 := eq_true c25
                      have c25b1 : decide ((ji23 : Int).toNat ≤ 281474976710656) = true := decide_eq_true c25
                      clear c25
                      obtain ⟨y184, hy184⟩ : ∃ y_ : List Int, y_ = (List.replicate (ji23 : Int).toNat 0) := ⟨_, rfl⟩
                      replace H : (palaverref14_Make.l3 k2 t174 x6_2 y184 0) = some r := by first | (rw [hy184]; with_reducible exact H) | (have H2_ := (Option.bind_some _ _).symm.trans H; rw [hy184]; with_reducible exact H2_) | (have H2_ := (Option.bind_some _ _).symm.trans H; with_reducible exact H2_) | with_reducible exact H | (rw [hy184]; exact H) | exact H
                      have Ny184 := Aside0.mk hy184
                      clear hy184
                      have H' := Aside0.mk H
                      clear H
                      go_wp2_with (first | ((with_reducible refine gate_dst (N := 56) rfl ?_); refine Kd.R_make (Kd.int .u8) _ 5 rfl (N := 56) rfl 38 _ _ rfl ji23 rfl rfl Try.underlying38 (.int .u8 0) 1 info5 rfl (by decide) (by omega) 0 (ok := fun _ => True) (okp := fun _ => True) rfl (fun _ hk => hk) trivial (of_decide_eq_true (by first | (with_reducible assumption) | assumption)) (Nat.le_trans (Nat.mul_le_mul_right _ (of_decide_eq_true (by first | (with_reducible assumption) | assumption) : ji23.toNat ≤ 281474976710656)) (by omega)) (Below.refl _ _) (Nat.le_refl _) ?_; intro v185 w26 ho27 hb hg_ hnew_; clear hg_ hnew_; (first | rw [← Ny184.out] at ho27 | (simp only [Int.reduceToNat] at ho27; rw [← Ny184.out] at ho27)); have n0_ := Aside0.mk (Kd.R_below (by (with_reducible repeat (first | apply Kd.R_alloc | apply Kd.R_drewN | apply Kd.R_drew)); exact HO_6.out) hb); have n1_ := Aside0.mk (Kd.R_lower ho27 (below_size (by repeat (first | (with_reducible first | exact HB.out | apply below_alloc | apply pw_below_drewN | apply below_drew1) | exact HB.out)))); have n2_ := Aside0.mk (below_step (by repeat (first | (with_reducible first | exact HB.out | apply below_alloc | apply pw_below_drewN | apply below_drew1) | exact HB.out)) hb); clear HO_6; clear HB; have HO_6 := n0_; have HO186 := n1_; have HB := n2_; clear n0_ n1_ n2_; clear hb ho27))
                      go_loopg [11] k2 (fun kq v11 w' => ∃ (x10_3 : List Int) (x11_3 : Int), v11 = .int .i64 x11_3 ∧ Aside0 (palaverref14_Make.l3 kq t174 x6_2 x10_3 x11_3 = some r) ∧ Aside0 (kq ≤ k2) ∧ Aside0 (Kd.R Kd.bool 4 w' w.heap.size (fun _ => True) v176 x6_2) ∧ Aside0 (Kd.R (Kd.int .u8) 5 w' w.heap.size (fun _ => True) v185 x10_3) ∧ Aside0 (Below w.heap.size w w'))
                      case atStart => exact ⟨(y184), (0), (by first | rfl | (simp; done) | (simp [*]; done)), H', ⟨Nat.le_refl _⟩, ⟨by (with_reducible repeat (first | apply Kd.R_alloc | apply Kd.R_drewN | apply Kd.R_drew)); exact HO_6.out⟩, ⟨by (with_reducible repeat (first | apply Kd.R_alloc | apply Kd.R_drewN | apply Kd.R_drew)); exact HO186.out⟩, ⟨by repeat (first | (with_reducible first | exact HB.out | apply below_alloc | apply pw_below_drewN | apply below_drew1) | exact HB.out)⟩⟩
                      case round =>
                        clear H'
                        try clear c1
                        try clear p1
                        try clear q1
                        try clear hx1
                        try clear hf1
                        try clear c2
                        try clear c2b0
                        try clear p2
                        try clear c3
                        try clear c3b0
                        try clear c4
                        try clear c4b0
                        try clear c4b1
                        try clear c6
                        try clear c6b0
                        try clear c6b1
                        try clear p6
                        try clear c7
                        try clear c7b0
                        try clear c7b1
                        try clear c10
                        try clear c10b0
                        try clear c11
                        try clear c11b0
                        try clear c13
                        try clear c14
                        try clear c14b0
                        try clear c15
                        try clear c15b0
                        try clear c16
                        try clear c16b0
                        try clear c17
                        try clear c17b0
                        try clear p17
                        try clear q17
                        try clear hx17
                        try clear p18
                        try clear q18
                        try clear hx18
                        try clear hf18
                        try clear c24
                        try clear c24b0
                        try clear c24b1
                        try clear c25
                        try clear c25b0
                        try clear c25b1
                        try clear hx173_0
                        try clear hx178_0
                        try clear hx182_0
                        try clear hx18_0
                        try clear p1
                        try clear p173
                        try clear p178
                        try clear p18
                        try clear p182
                        try clear p2
                        try clear p6
                        try clear q1
                        try clear q173
                        try clear q178
                        try clear q18
                        try clear q182
                        obtain ⟨x10_3, x11_3, rfl, HA, HK3, HO_6, HO_10, HB⟩ := hrel
                        cases gk with
                        | zero => exact absurd HA.out (by simp [palaverref14_Make.l3])
                        | succ k3 =>
                          have H := HA.out
                          clear HA
                          simp only [palaverref14_Make.l3] at H
                          by_cases c28 : x11_3 < t174
                          · rw [if_pos c28] at H
                            have c28b0 : decide (x11_3 < t174) = true := decide_eq_true c28
                            clear c28
                            by_cases c29 : 0 ≤ x11_3
                            · rw [if_pos c29] at H
                              have c29b0 : decide (0 ≤ x11_3) = true := decide_eq_true c29
                              clear c29
                              by_cases c30 : x11_3 < (x6_2.length : Int)
                              · rw [if_pos c30] at H
                                have c30b0 : decide (x11_3 < (x6_2.length : Int)) = true := decide_eq_true c30
                                clear c30
                                obtain ⟨bq31, hbq31⟩ : ∃ b_ : Bool, b_ = (rdOf false x6_2 x11_3) := ⟨_, rfl⟩
                                replace H : (if bq31 = true then (if 0 ≤ (wrap64 (Int.tdiv x11_3 8)) then (if (wrap64 (Int.tdiv x11_3 8)) < (x10_3.length : Int) then (if 0 ≤ (Int.tmod x11_3 8) then (palaverref14_Make.l3 k3 t174 x6_2 (x10_3.set ((wrap64 (Int.tdiv x11_3 8)) : Int).toNat (((rd x10_3 (wrap64 (Int.tdiv x11_3 8))) + (shl .u8 1 (Int.tmod x11_3 8))) % 256)) (wrap64 (x11_3 + 1))) else (none)) else (none)) else (none)) else (palaverref14_Make.l3 k3 t174 x6_2 x10_3 (wrap64 (x11_3 + 1)))) = some r := by rw [← hbq31] at H; exact H
                                have Nbq31 := Aside0.mk hbq31
                                clear hbq31
                                by_cases c32 : bq31 = true
                                · subst c32
                                  have H1 : (if 0 ≤ (wrap64 (Int.tdiv x11_3 8)) then (if (wrap64 (Int.tdiv x11_3 8)) < (x10_3.length : Int) then (if 0 ≤ (Int.tmod x11_3 8) then (palaverref14_Make.l3 k3 t174 x6_2 (x10_3.set ((wrap64 (Int.tdiv x11_3 8)) : Int).toNat (((rd x10_3 (wrap64 (Int.tdiv x11_3 8))) + (shl .u8 1 (Int.tmod x11_3 8))) % 256)) (wrap64 (x11_3 + 1))) else (none)) else (none)) else (none)) = some r := by rw [if_pos rfl] at H; exact H
                                  clear H
                                  have H := H1
                                  clear H1
                                  obtain ⟨ji33, hji33⟩ : ∃ j_ : Int, (wrap64 (Int.tdiv x11_3 8)) = j_ := ⟨_, rfl⟩
                                  replace H : (if 0 ≤ (ji33) then (if (ji33) < (x10_3.length : Int) then (if 0 ≤ (Int.tmod x11_3 8) then (palaverref14_Make.l3 k3 t174 x6_2 (x10_3.set ((ji33) : Int).toNat (((rd x10_3 (ji33)) + (shl .u8 1 (Int.tmod x11_3 8))) % 256)) (wrap64 (x11_3 + 1))) else (none)) else (none)) else (none)) = some r := by first | (rw [hji33] at H; exact H) | (simp only [hji33] at H ⊢; exact H)
                                  have hji33w : (IntKind.i64.wrap (Int.tdiv x11_3 8)) = ji33 := (i64_w _).trans hji33
                                  by_cases c34 : 0 ≤ (ji33)
                                  · rw [if_pos c34] at H
                                    have c34b0 : decide (0 ≤ (ji33)) = true := decide_eq_true c34
                                    clear c34
                                    by_cases c35 : (ji33) < (x10_3.length : Int)
                                    · rw [if_pos c35] at H
                                      have c35b0 : decide ((ji33) < (x10_3.length : Int)) = true := decide_eq_true c35
                                      clear c35
                                      obtain ⟨ji36, hji36⟩ : ∃ j_ : Int, (Int.tmod x11_3 8) = j_ := ⟨_, rfl⟩
                                      replace H : (if 0 ≤ (ji36) then (palaverref14_Make.l3 k3 t174 x6_2 (x10_3.set ((ji33) : Int).toNat (((rd x10_3 (ji33)) + (shl .u8 1 (ji36))) % 256)) (wrap64 (x11_3 + 1))) else (none)) = some r := by first | (rw [hji36] at H; exact H) | (simp only [hji36] at H ⊢; exact H)
                                      by_cases c37 : 0 ≤ (ji36)
                                      · rw [if_pos c37] at H
                                        have c37b0 := eq_true c37
                                        have c37b1 : decide (0 ≤ (ji36)) = true := decide_eq_true c37
                                        clear c37
                                        obtain ⟨ji38, hji38⟩ : ∃ j_ : Int, (shl .u8 1 (ji36)) = j_ := ⟨_, rfl⟩
                                        replace H : (palaverref14_Make.l3 k3 t174 x6_2 (x10_3.set ((ji33) : Int).toNat (((rd x10_3 (ji33)) + (ji38)) % 256)) (wrap64 (x11_3 + 1))) = some r := by first | (rw [hji38] at H; exact H) | (simp only [hji38] at H ⊢; exact H)
                                        have hji38_ : (IntKind.u8.wrap (1 * 2 ^ min (ji36).toNat 8)) = ji38 := hji38
                                        have hji38z : (ji36) ≤ 8 → (IntKind.u8.wrap (1 * 2 ^ (ji36).toNat)) = ji38 := shl_small hji38
                                        have hji38u : (IntKind.u8.wrap (2 ^ min (ji36).toNat 8)) = ji38 := by have h_ := hji38_; rw [Int.one_mul] at h_; exact h_
                                        have hji38v : (ji36) ≤ 8 → (IntKind.u8.wrap (2 ^ (ji36).toNat)) = ji38 := fun hle_ => by have h_ := hji38z hle_; rw [Int.one_mul] at h_; exact h_
                                        obtain ⟨y189, hy189⟩ : ∃ y_ : List Int, y_ = (x10_3.set ((ji33) : Int).toNat (((rd x10_3 (ji33)) + (ji38)) % 256)) := ⟨_, rfl⟩
                                        replace H : (palaverref14_Make.l3 k3 t174 x6_2 y189 (wrap64 (x11_3 + 1))) = some r := by first | (rw [hy189]; with_reducible exact H) | (have H2_ := (Option.bind_some _ _).symm.trans H; rw [hy189]; with_reducible exact H2_) | (have H2_ := (Option.bind_some _ _).symm.trans H; with_reducible exact H2_) | with_reducible exact H | (rw [hy189]; exact H) | exact H
                                        have Ny189 := Aside0.mk hy189
                                        clear hy189
                                        have H' := Aside0.mk H
                                        clear H
                                        obtain ⟨Ao40, co40, eo40⟩ := Kd.R_slice HO_6.out
                                        subst eo40
                                        have p187 : 0 ≤ (x11_3 : Int) := of_decide_eq_true (by first | (with_reducible assumption) | assumption)
                                        have q187 : x11_3 < (x6_2.length : Int) := of_decide_eq_true (by first | (with_reducible assumption) | assumption)
                                        obtain ⟨ad187, e187, hx187_0⟩ := Kd.at_bool (Kd.R_reads' HO_6.out).2.2 x11_3 p187 q187
                                        (try rw [← Nbq31.out] at hx187_0)
                                        cases e187
                                        replace p187 := eq_true p187
                                        replace q187 := eq_true q187
                                        try go_wp2
                                        have n0_ := Aside0.mk (Kd.R_drew HO_6.out)
                                        have n1_ := Aside0.mk (Kd.R_drew HO_10.out)
                                        have n2_ := Aside0.mk (below_drew1 HB.out)
                                        clear HO_6
                                        clear HO_10
                                        clear HB
                                        have HO_6 := n0_
                                        have HO_10 := n1_
                                        have HB := n2_
                                        clear n0_ n1_ n2_
                                        obtain ⟨Ao42, co42, eo42⟩ := Kd.R_slice HO_10.out
                                        (first | subst eo42 | (injection eo42 with f1_ f2_ f3_; have f4_ := f1_.symm; have f5_ := f3_.symm; clear f1_ f2_ f3_; subst f4_; subst f5_))
                                        have p188 : 0 ≤ ((ji33) : Int) := of_decide_eq_true (by first | (with_reducible assumption) | assumption)
                                        have q188 : (ji33) < (x10_3.length : Int) := of_decide_eq_true (by first | (with_reducible assumption) | assumption)
                                        obtain ⟨ad188, e188, hx188_0⟩ := Kd.at_int (Kd.R_reads' HO_10.out).2.2 (ji33) p188 q188
                                        cases e188
                                        replace p188 := eq_true p188
                                        replace q188 := eq_true q188
                                        have p39 : 0 ≤ ((ji33) : Int) := of_decide_eq_true (by first | (with_reducible assumption) | assumption)
                                        have q39 : ((ji33) : Int) < ((x10_3.length : Int) : Int) := of_decide_eq_true (by first | (with_reducible assumption) | assumption)
                                        obtain ⟨go39, co39, eo39, gb39, gl39, cl39, HG39⟩ := Kd.R_form HO_10.out (by omega)
                                        (first | cases eo39 | (injection eo39 with ea_ en_ ec_; (first | subst ea_ | (injection ea_ with ea_; subst ea_)); subst ec_; clear en_))
                                        have GB39 := Aside0.mk gb39
                                        have GG39 := Aside0.mk HG39
                                        clear gb39 gl39 HG39
                                        (first | simp only [add_plain] at hx188_0 | skip)
                                        obtain ⟨hx39_0, hf39_0⟩ := Kd.R_celln 0 HO_10.out ((ji33) : Int) p39 q39
                                        replace p39 := eq_true p39
                                        replace q39 := eq_true q39
                                        have HP43 := Kd.R_putn HO_10.out ((ji33) : Int) (((rd x10_3 (ji33)) + (ji38)) % 256)
                                        rw [← Ny189.out] at HP43
                                        have HQ43 := Aside0.mk HP43
                                        clear HP43
                                        refine start_ (n := 14) (S := fun w' => w'.cell? ⟨go39, ((ji33)).toNat, none⟩ = some (.int .u8 (rd x10_3 (ji33)))) (ds := [13]) #[false, false, false, false, false, false, false, false, false, false, false, false, false, false] (by kernel_rfl) rfl rfl (hx188_0) (fun hHeld => ?_); refine with_tabW palaverref14_Make.tab22 palaverref14_Make.bits22 (fun HT_ HW_ => ?_)
                                        generalize wr.drew = w41 at HO_6 HO_10 HB GG39 HQ43 hf39_0 hx188_0 hx39_0 hHeld ⊢
                                        refine pure_ (i := 0) (N := some 66) (v := ?_) (a' := ?_) #[true, false, false, false, false, false, false, false, false, false, false, false, false, false] rfl rfl (any_of HT_.out (by kernel_rfl)) (fun _ _ _ h => h) (Or.inl ⟨by rfl, ?_⟩) ?_ ?_
                                        rotate_left
                                        · intro w'
                                          go_simp
                                          with_reducible rfl
                                        rotate_left
                                        · simp only [Act.put, List.setIfInBounds_toArray, List.set_cons_zero, List.set_cons_succ, i64_w, i32_w]
                                          rfl
                                        refine pure_ (i := 1) (N := some 67) (v := ?_) (a' := ?_) #[true, true, false, false, false, false, false, false, false, false, false, false, false, false] rfl rfl (any_of HT_.out (by kernel_rfl)) (fun _ _ _ h => h) (Or.inl ⟨by rfl, ?_⟩) ?_ ?_
                                        rotate_left
                                        · intro w'
                                          go_simp
                                          with_reducible rfl
                                        rotate_left
                                        · simp only [Act.put, List.setIfInBounds_toArray, List.set_cons_zero, List.set_cons_succ, i64_w, i32_w]
                                          rfl
                                        refine pure_ (i := 2) (N := some 68) (v := ?_) (a' := ?_) #[true, true, true, false, false, false, false, false, false, false, false, false, false, false] rfl rfl (any_of HT_.out (by kernel_rfl)) (fun _ _ _ h => h) (Or.inl ⟨by rfl, ?_⟩) ?_ ?_
                                        rotate_left
                                        · intro w'
                                          go_simp
                                          with_reducible rfl
                                        rotate_left
                                        · simp only [Act.put, List.setIfInBounds_toArray, List.set_cons_zero, List.set_cons_succ, i64_w, i32_w]
                                          rfl
                                        refine pure_ (i := 3) (N := some 69) (v := ?_) (a' := ?_) #[true, true, true, true, false, false, false, false, false, false, false, false, false, false] rfl rfl (any_of HT_.out (by kernel_rfl)) (fun _ _ _ h => h) (Or.inl ⟨by rfl, ?_⟩) ?_ ?_
                                        rotate_left
                                        · intro w'
                                          go_simp
                                          with_reducible rfl
                                        rotate_left
                                        · simp only [Act.put, List.setIfInBounds_toArray, List.set_cons_zero, List.set_cons_succ, i64_w, i32_w]
                                          rfl
                                        refine pure_ (i := 4) (N := some 70) (v := ?_) (a' := ?_) #[true, true, true, true, true, false, false, false, false, false, false, false, false, false] rfl rfl (any_of HT_.out (by kernel_rfl)) (fun _ _ _ h => h) (Or.inl ⟨by rfl, ?_⟩) ?_ ?_
                                        rotate_left
                                        · intro w'
                                          go_simp
                                          with_reducible rfl
                                        rotate_left
                                        · simp only [Act.put, List.setIfInBounds_toArray, List.set_cons_zero, List.set_cons_succ, i64_w, i32_w]
                                          rfl
                                        refine pure_ (i := 5) (N := some 71) (v := ?_) (a' := ?_) #[true, true, true, true, true, true, false, false, false, false, false, false, false, false] rfl rfl (any_of HT_.out (by kernel_rfl)) (fun _ _ _ h => h) (Or.inl ⟨by rfl, ?_⟩) ?_ ?_
                                        rotate_left
                                        · intro w'
                                          go_simp
                                          with_reducible rfl
                                        rotate_left
                                        · simp only [Act.put, List.setIfInBounds_toArray, List.set_cons_zero, List.set_cons_succ, i64_w, i32_w]
                                          rfl
                                        refine pure_ (i := 6) (N := some 72) (v := ?_) (a' := ?_) #[true, true, true, true, true, true, true, false, false, false, false, false, false, false] rfl rfl (any_of HT_.out (by kernel_rfl)) (fun _ _ _ h => h) (Or.inl ⟨by rfl, ?_⟩) ?_ ?_
                                        rotate_left
                                        · intro w'
                                          go_simp
                                          with_reducible rfl
                                        rotate_left
                                        · simp only [Act.put, List.setIfInBounds_toArray, List.set_cons_zero, List.set_cons_succ, i64_w, i32_w]
                                          rfl
                                        refine pure_ (i := 8) (N := some 74) (v := ?_) (a' := ?_) #[true, true, true, true, true, true, true, false, true, false, false, false, false, false] rfl rfl (any_of HT_.out (by kernel_rfl)) (fun _ _ _ h => h) (Or.inl ⟨by rfl, ?_⟩) ?_ ?_
                                        rotate_left
                                        · intro w'
                                          go_simp
                                          with_reducible rfl
                                        rotate_left
                                        · simp only [Act.put, List.setIfInBounds_toArray, List.set_cons_zero, List.set_cons_succ, i64_w, i32_w]
                                          rfl
                                        refine pure_ (i := 9) (N := some 75) (v := ?_) (a' := ?_) #[true, true, true, true, true, true, true, false, true, true, false, false, false, false] rfl rfl (any_of HT_.out (by kernel_rfl)) (fun _ _ _ h => h) (Or.inl ⟨by rfl, ?_⟩) ?_ ?_
                                        rotate_left
                                        · intro w'
                                          go_simp
                                          with_reducible rfl
                                        rotate_left
                                        · simp only [Act.put, List.setIfInBounds_toArray, List.set_cons_zero, List.set_cons_succ, i64_w, i32_w]
                                          rfl
                                        refine pure_ (i := 10) (N := some 76) (v := ?_) (a' := ?_) #[true, true, true, true, true, true, true, false, true, true, true, false, false, false] rfl rfl (any_of HT_.out (by kernel_rfl)) (fun _ _ _ h => h) (Or.inl ⟨by rfl, ?_⟩) ?_ ?_
                                        rotate_left
                                        · intro w'
                                          go_simp
                                          with_reducible rfl
                                        rotate_left
                                        · simp only [Act.put, List.setIfInBounds_toArray, List.set_cons_zero, List.set_cons_succ, i64_w, i32_w]
                                          rfl
                                        refine take_ (i := 7) (N := some 73) (v := ?_) (a' := ?_) #[true, true, true, true, true, true, true, true, true, true, true, false, false, false] rfl rfl (take_ofW HT_.out HW_.out (by kernel_rfl)) (fun _ _ _ h => h) (Or.inl ⟨by rfl, ?_⟩) hHeld ?_ ?_
                                        rotate_left
                                        · intro w' s0
                                          go_simp
                                          with_reducible rfl
                                        rotate_left
                                        · simp only [Act.put, List.setIfInBounds_toArray, List.set_cons_zero, List.set_cons_succ, i64_w, i32_w]
                                          rfl
                                        refine pure_ (i := 11) (N := some 77) (v := ?_) (a' := ?_) #[true, true, true, true, true, true, true, true, true, true, true, true, false, false] rfl rfl (any_of HT_.out (by kernel_rfl)) (fun _ _ _ h => h) (Or.inl ⟨by rfl, ?_⟩) ?_ ?_
                                        rotate_left
                                        · intro w'
                                          go_simp
                                          with_reducible rfl
                                        rotate_left
                                        · simp only [Act.put, List.setIfInBounds_toArray, List.set_cons_zero, List.set_cons_succ, i64_w, i32_w]
                                          rfl
                                        refine pure_ (i := 12) (N := some 78) (v := ?_) (a' := ?_) #[true, true, true, true, true, true, true, true, true, true, true, true, true, false] rfl rfl (any_of HT_.out (by kernel_rfl)) (fun _ _ _ h => h) (Or.inl ⟨by rfl, ?_⟩) ?_ ?_
                                        rotate_left
                                        · intro w'
                                          go_simp
                                          with_reducible rfl
                                        rotate_left
                                        · simp only [Act.put, List.setIfInBounds_toArray, List.set_cons_zero, List.set_cons_succ, i64_w, i32_w]
                                          rfl
                                        refine last_ (i := 13) (N := none) #[true, true, true, true, true, true, true, true, true, true, true, true, true, true] rfl rfl (one_of HT_.out (by kernel_rfl)) (by decide) (fun K hK => ?_)
                                        refine skip_ (w1 := ?_) (by rfl) rfl ?_ ?_
                                        rotate_left
                                        · go_simp
                                          rfl
                                        refine hK.out _ _ ?_
                                        clear hK K
                                        refine done_ (done_of HT_.out (by kernel_rfl)) ?_
                                        try go_wp2
                                        go_roundg k3
                                        case measure => have := HK1.out; have := HK2.out; have := HK3.out; omega
                                        case rel => exact ⟨(y189), (wrap64 (x11_3 + 1)), (by first | rfl | (simp; done) | (simp [*]; done)), H', ⟨by have := HK1.out; have := HK2.out; have := HK3.out; omega⟩, ⟨by (with_reducible repeat (first | apply Kd.R_alloc | apply Kd.R_drewN | apply Kd.R_drew)); exact Kd.R_mono (Kd.R_far (p := ⟨go39, ((ji33) : Int).toNat, none⟩) (Kd.R_types HO_6.out GG39.out (by decide)) (fun _ hk => hk.2) (.int .u8 (((rd x10_3 (ji33)) + (ji38)) % 256))) (fun _ hk => trivial)⟩, ⟨by (with_reducible repeat (first | apply Kd.R_alloc | apply Kd.R_drewN | apply Kd.R_drew)); exact HQ43.out⟩, ⟨by repeat (first | (with_reducible first | exact HB.out | apply below_alloc | apply pw_below_drewN | apply below_drew1 | refine below_set ?_ GB39.out) | exact HB.out)⟩⟩
                                      · rw [if_neg c37] at H
                                        exact absurd H (by simp)
                                    · rw [if_neg c35] at H
                                      exact absurd H (by simp)
                                  · rw [if_neg c34] at H
                                    exact absurd H (by simp)
                                · replace c32 := Bool.eq_false_iff.mpr c32
                                  subst c32
                                  have H1 : (palaverref14_Make.l3 k3 t174 x6_2 x10_3 (wrap64 (x11_3 + 1))) = some r := by rw [if_neg (show ¬ (false = true) by decide)] at H; exact H
                                  clear H
                                  have H := H1
                                  clear H1
                                  have H' := Aside0.mk H
                                  clear H
                                  obtain ⟨Ao44, co44, eo44⟩ := Kd.R_slice HO_6.out
                                  subst eo44
                                  have p187 : 0 ≤ (x11_3 : Int) := of_decide_eq_true (by first | (with_reducible assumption) | assumption)
                                  have q187 : x11_3 < (x6_2.length : Int) := of_decide_eq_true (by first | (with_reducible assumption) | assumption)
                                  obtain ⟨ad187, e187, hx187_0⟩ := Kd.at_bool (Kd.R_reads' HO_6.out).2.2 x11_3 p187 q187
                                  (try rw [← Nbq31.out] at hx187_0)
                                  cases e187
                                  replace p187 := eq_true p187
                                  replace q187 := eq_true q187
                                  go_wp2
                                  go_roundg k3
                                  case measure => have := HK1.out; have := HK2.out; have := HK3.out; omega
                                  case rel => exact ⟨(x10_3), (wrap64 (x11_3 + 1)), (by first | rfl | (simp; done) | (simp [*]; done)), H', ⟨by have := HK1.out; have := HK2.out; have := HK3.out; omega⟩, ⟨by (with_reducible repeat (first | apply Kd.R_alloc | apply Kd.R_drewN | apply Kd.R_drew)); exact HO_6.out⟩, ⟨by (with_reducible repeat (first | apply Kd.R_alloc | apply Kd.R_drewN | apply Kd.R_drew)); exact HO_10.out⟩, ⟨by repeat (first | (with_reducible first | exact HB.out | apply below_alloc | apply pw_below_drewN | apply below_drew1) | exact HB.out)⟩⟩
                              · rw [if_neg c30] at H
                                exact absurd H (by simp)
                            · rw [if_neg c29] at H
                              exact absurd H (by simp)
                          · rw [if_neg c28] at H
                            have c28b0 : decide (x11_3 < t174) = false := decide_eq_false c28
                            clear c28
                            obtain rfl := Option.some.inj H
                            have hcv45 := own_string (P := Try.prog) Try.underlying38 Try.underlying5 Try.underlying9 (Kd.own_of_R HO_10.out)
                            go_wp2
                            go_ret
                            exact ⟨by first | rfl | (simp [errW_none, errW_some] <;> rfl) | (simp only [← hji23]; first | rfl | (simp [errW_none, errW_some] <;> rfl)) | (simp [*, errW_none, errW_some] <;> rfl), by repeat (first | (with_reducible first | exact HB.out | apply below_alloc | apply pw_below_drewN | apply below_drew1) | exact HB.out)⟩
                    · rw [if_neg c25] at H
                      exact absurd H (by simp)
                  · rw [if_neg c24] at H
                    exact absurd H (by simp)
          · rw [if_neg c7] at H
            exact absurd H (by simp)
        · rw [if_neg c6] at H
          exact absurd H (by simp)

/-! ### palaverlaw14_BloomMakes: function 4 -/
def palaverlaw14_BloomMakes.f (k : Nat) (l0 : List ByteArray) : Option (Bool) := (palaverlaw14_great.f k l0).bind fun t190 => (if t190 = true then ((palaverlaw14_awake.f k).bind fun t191 => (some t191)) else ((bloom_Make.f k l0).bind fun t192 => ((palaverref14_Make.f k l0).bind fun t193 => (if t192.toList = t193.toList then ((palaverlaw14_awake.f k).bind fun t194 => (some t194)) else (some false)))))
theorem palaverlaw14_BloomMakes.mono : ∀ a0 k, LeO (palaverlaw14_BloomMakes.f k a0) (palaverlaw14_BloomMakes.f (k + 1) a0) := by
  intro a0 k
  unfold palaverlaw14_BloomMakes.f
  repeat' first
      | (with_reducible exact bloom_Make.mono _ _)
      | (with_reducible exact palaverlaw14_awake.mono _)
      | (with_reducible exact palaverlaw14_great.mono _ _)
      | (with_reducible exact palaverref14_Make.mono _ _)
      | (with_reducible exact LeO.refl _)
      | (with_reducible exact LeO.none _)
      | (with_reducible refine LeO.ite ?_ ?_)
      | (with_reducible refine LeO.bind ?_ (fun _ => ?_))
      | exact bloom_Make.mono _ _
      | exact palaverlaw14_awake.mono _
      | exact palaverlaw14_great.mono _ _
      | exact palaverref14_Make.mono _ _
      | exact LeO.none _
      | refine LeO.ite ?_ ?_
      | refine LeO.bind ?_ (fun _ => ?_)
set_option maxHeartbeats 8000000 in
set_option maxRecDepth 100000 in
theorem palaverlaw14_BloomMakes.calls (k : Nat) (A0 : Option Addr) (c0 : Nat) (l0 : List ByteArray) (r : Bool) (w : World) (hr0 : Kd.C Kd.string w A0 l0.length l0) (hc0 : l0.length ≤ c0) (h : palaverlaw14_BloomMakes.f k l0 = some r) :
    Calls Try.prog 4 #[.slice A0 l0.length c0] w fun e w' => e = .returned (.bool r) ∧ Below w.heap.size w w' := by
  have HR0 := Aside0.mk hr0
  have HC0 := Aside0.mk hc0
  clear hr0 hc0
  have HB := Aside0.mk (Below.refl w.heap.size w)
  have H : ((palaverlaw14_great.f k l0).bind fun t190 => (if t190 = true then ((palaverlaw14_awake.f k).bind fun t191 => (some t191)) else ((bloom_Make.f k l0).bind fun t192 => ((palaverref14_Make.f k l0).bind fun t193 => (if t192.toList = t193.toList then ((palaverlaw14_awake.f k).bind fun t194 => (some t194)) else (some false)))))) = some r := h
  clear h
  replace H := Option.bind_eq_some_iff.mp H
  obtain ⟨t190, A20, H⟩ := H
  replace H : (if t190 = true then ((palaverlaw14_awake.f k).bind fun t191 => (some t191)) else ((bloom_Make.f k l0).bind fun t192 => ((palaverref14_Make.f k l0).bind fun t193 => (if t192.toList = t193.toList then ((palaverlaw14_awake.f k).bind fun t194 => (some t194)) else (some false))))) = some r := H
  have A2 := Aside0.mk A20
  clear A20
  by_cases c3 : t190 = true
  · subst c3
    have H1 : ((palaverlaw14_awake.f k).bind fun t191 => (some t191)) = some r := by rw [if_pos rfl] at H; exact H
    clear H
    have H := H1
    clear H1
    replace H := Option.bind_eq_some_iff.mp H
    obtain ⟨t191, A40, H⟩ := H
    replace H : (some t191) = some r := H
    have A4 := Aside0.mk A40
    clear A40
    obtain rfl := Option.some.inj H
    go_enter Try.func4, Try.ntmps4
    go_wp2_with (first | ((with_reducible refine gate_callee (f := 14) rfl ?_); refine goesL_ (some 4) rfl rfl Try.func14 (by kernel_rfl) rfl #[.slice A0 l0.length c0] rfl (by (try simp only [List.map_toArray, List.map_cons, List.map_nil]); first | done | rfl | (simp only [List.length_drop, List.length_take]; rfl)) ?_; (with_reducible refine (palaverlaw14_great.calls k _ _ l0 true _ ?side1 ?side2 A2.out).mono ?_); (case side1 => repeat (first | exact HR0.out | (with_reducible refine Kd.C_alloc ?_ _) | (with_reducible refine Kd.C_drewN ?_ _) | (with_reducible refine Kd.C_drew ?_))); (case side2 => exact HC0.out); rintro e w' ⟨rfl, ⟨nd, rfl⟩⟩; refine ⟨_, rfl, ?_⟩) | (go_at_call 9; (with_reducible refine (palaverlaw14_awake.calls k  t191 _ A4.out).mono ?_); rintro e w5 ⟨rfl, hb⟩; have n0_ := Aside0.mk (below_step (by repeat (first | (with_reducible first | exact HB.out | apply below_alloc | apply pw_below_drewN | apply below_drew1) | exact HB.out)) hb); clear HB; have HB := n0_; clear n0_; (try clear hb); (try clear hb2); (try clear hk); (try clear hi)))
    go_ret
    exact ⟨by first | rfl | (simp [errW_none, errW_some] <;> rfl) | (simp [*, errW_none, errW_some] <;> rfl), by repeat (first | (with_reducible first | exact HB.out | apply below_alloc | apply pw_below_drewN | apply below_drew1) | exact HB.out)⟩
  · replace c3 := Bool.eq_false_iff.mpr c3
    subst c3
    have H1 : ((bloom_Make.f k l0).bind fun t192 => ((palaverref14_Make.f k l0).bind fun t193 => (if t192.toList = t193.toList then ((palaverlaw14_awake.f k).bind fun t194 => (some t194)) else (some false)))) = some r := by rw [if_neg (show ¬ (false = true) by decide)] at H; exact H
    clear H
    have H := H1
    clear H1
    replace H := Option.bind_eq_some_iff.mp H
    obtain ⟨t192, A60, H⟩ := H
    replace H : ((palaverref14_Make.f k l0).bind fun t193 => (if t192.toList = t193.toList then ((palaverlaw14_awake.f k).bind fun t194 => (some t194)) else (some false))) = some r := H
    have A6 := Aside0.mk A60
    clear A60
    replace H := Option.bind_eq_some_iff.mp H
    obtain ⟨t193, A70, H⟩ := H
    replace H : (if t192.toList = t193.toList then ((palaverlaw14_awake.f k).bind fun t194 => (some t194)) else (some false)) = some r := H
    have A7 := Aside0.mk A70
    clear A70
    by_cases c8 : t192.toList = t193.toList
    · rw [if_pos c8] at H
      have c8b0 : (t192.toList == t193.toList) = true := beq_iff_eq.mpr c8
      have c8b1 : (t192.toList != t193.toList) = false := bne_eq_false_iff_eq.mpr c8
      clear c8
      replace H := Option.bind_eq_some_iff.mp H
      obtain ⟨t194, A90, H⟩ := H
      replace H : (some t194) = some r := H
      have A9 := Aside0.mk A90
      clear A90
      obtain rfl := Option.some.inj H
      go_enter Try.func4, Try.ntmps4
      go_wp2_with (first | ((with_reducible refine gate_callee (f := 14) rfl ?_); refine goesL_ (some 4) rfl rfl Try.func14 (by kernel_rfl) rfl #[.slice A0 l0.length c0] rfl (by (try simp only [List.map_toArray, List.map_cons, List.map_nil]); first | done | rfl | (simp only [List.length_drop, List.length_take]; rfl)) ?_; (with_reducible refine (palaverlaw14_great.calls k _ _ l0 false _ ?side1 ?side2 A2.out).mono ?_); (case side1 => repeat (first | exact HR0.out | (with_reducible refine Kd.C_alloc ?_ _) | (with_reducible refine Kd.C_drewN ?_ _) | (with_reducible refine Kd.C_drew ?_))); (case side2 => exact HC0.out); rintro e w' ⟨rfl, ⟨nd, rfl⟩⟩; refine ⟨_, rfl, ?_⟩) | (go_at_call 15; (with_reducible refine (bloom_Make.calls k _ _ l0 t192 _ ?side1 ?side2 A6.out).mono ?_); (case side1 => repeat (first | exact HR0.out | (with_reducible refine Kd.C_alloc ?_ _) | (with_reducible refine Kd.C_drewN ?_ _) | (with_reducible refine Kd.C_drew ?_))); (case side2 => exact HC0.out); rintro e w10 ⟨rfl, hb⟩; have n0_ := Aside0.mk (below_step (by repeat (first | (with_reducible first | exact HB.out | apply below_alloc | apply pw_below_drewN | apply below_drew1) | exact HB.out)) hb); clear HB; have HB := n0_; clear n0_; (try clear hb); (try clear hb2); (try clear hk); (try clear hi)) | (go_at_call 16; (with_reducible refine (palaverref14_Make.calls k _ _ l0 t193 _ ?side1 ?side2 A7.out).mono ?_); (case side1 => repeat (first | exact (Kd.C_below HR0.out HB.out) | (with_reducible refine Kd.C_alloc ?_ _) | (with_reducible refine Kd.C_drewN ?_ _) | (with_reducible refine Kd.C_drew ?_))); (case side2 => exact HC0.out); rintro e w11 ⟨rfl, hb⟩; have n0_ := Aside0.mk (below_step (by repeat (first | (with_reducible first | exact HB.out | apply below_alloc | apply pw_below_drewN | apply below_drew1) | exact HB.out)) hb); clear HB; have HB := n0_; clear n0_; (try clear hb); (try clear hb2); (try clear hk); (try clear hi)) | (go_at_call 9; (with_reducible refine (palaverlaw14_awake.calls k  t194 _ A9.out).mono ?_); rintro e w12 ⟨rfl, hb⟩; have n0_ := Aside0.mk (below_step (by repeat (first | (with_reducible first | exact HB.out | apply below_alloc | apply pw_below_drewN | apply below_drew1) | exact HB.out)) hb); clear HB; have HB := n0_; clear n0_; (try clear hb); (try clear hb2); (try clear hk); (try clear hi)))
      go_ret
      exact ⟨by first | rfl | (simp [errW_none, errW_some] <;> rfl) | (simp [*, errW_none, errW_some] <;> rfl), by repeat (first | (with_reducible first | exact HB.out | apply below_alloc | apply pw_below_drewN | apply below_drew1) | exact HB.out)⟩
    · rw [if_neg c8] at H
      have c8b0 : (t192.toList == t193.toList) = false := beq_eq_false_iff_ne.mpr c8
      have c8b1 : (t192.toList != t193.toList) = true := bne_iff_ne.mpr c8
      obtain rfl := Option.some.inj H
      go_enter Try.func4, Try.ntmps4
      go_wp2_with (first | ((with_reducible refine gate_callee (f := 14) rfl ?_); refine goesL_ (some 4) rfl rfl Try.func14 (by kernel_rfl) rfl #[.slice A0 l0.length c0] rfl (by (try simp only [List.map_toArray, List.map_cons, List.map_nil]); first | done | rfl | (simp only [List.length_drop, List.length_take]; rfl)) ?_; (with_reducible refine (palaverlaw14_great.calls k _ _ l0 false _ ?side1 ?side2 A2.out).mono ?_); (case side1 => repeat (first | exact HR0.out | (with_reducible refine Kd.C_alloc ?_ _) | (with_reducible refine Kd.C_drewN ?_ _) | (with_reducible refine Kd.C_drew ?_))); (case side2 => exact HC0.out); rintro e w' ⟨rfl, ⟨nd, rfl⟩⟩; refine ⟨_, rfl, ?_⟩) | (go_at_call 15; (with_reducible refine (bloom_Make.calls k _ _ l0 t192 _ ?side1 ?side2 A6.out).mono ?_); (case side1 => repeat (first | exact HR0.out | (with_reducible refine Kd.C_alloc ?_ _) | (with_reducible refine Kd.C_drewN ?_ _) | (with_reducible refine Kd.C_drew ?_))); (case side2 => exact HC0.out); rintro e w13 ⟨rfl, hb⟩; have n0_ := Aside0.mk (below_step (by repeat (first | (with_reducible first | exact HB.out | apply below_alloc | apply pw_below_drewN | apply below_drew1) | exact HB.out)) hb); clear HB; have HB := n0_; clear n0_; (try clear hb); (try clear hb2); (try clear hk); (try clear hi)) | (go_at_call 16; (with_reducible refine (palaverref14_Make.calls k _ _ l0 t193 _ ?side1 ?side2 A7.out).mono ?_); (case side1 => repeat (first | exact (Kd.C_below HR0.out HB.out) | (with_reducible refine Kd.C_alloc ?_ _) | (with_reducible refine Kd.C_drewN ?_ _) | (with_reducible refine Kd.C_drew ?_))); (case side2 => exact HC0.out); rintro e w14 ⟨rfl, hb⟩; have n0_ := Aside0.mk (below_step (by repeat (first | (with_reducible first | exact HB.out | apply below_alloc | apply pw_below_drewN | apply below_drew1) | exact HB.out)) hb); clear HB; have HB := n0_; clear n0_; (try clear hb); (try clear hb2); (try clear hk); (try clear hi)))
      go_ret
      exact ⟨by first | rfl | (simp [errW_none, errW_some] <;> rfl) | (simp [*, errW_none, errW_some] <;> rfl), by repeat (first | (with_reducible first | exact HB.out | apply below_alloc | apply pw_below_drewN | apply below_drew1) | exact HB.out)⟩

end Go.Proofs.Ytjpjhbgdaflmgaa.PP
