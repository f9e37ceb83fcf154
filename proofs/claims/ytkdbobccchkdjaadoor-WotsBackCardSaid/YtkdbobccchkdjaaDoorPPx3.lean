-- WRITTEN BY a program of this work (wip/ownprint.py), for this seat
import Derived.Test.YtkdbobccchkdjaaDoorPPx0
import Derived.Test.YtkdbobccchkdjaaDoorPPx1
import Derived.Test.YtkdbobccchkdjaaDoorPPx2
namespace Go.Proofs.YtkdbobccchkdjaaDoor.PP
open Go.RowKit Go.Proofs.YtkdbobccchkdjaaDoorW.PrintWords Go.Proofs.YtkdbobccchkdjaaDoorW.PrintLast Go.Proofs.YtkdbobccchkdjaaDoorW.PrintMore
attribute [local go_sem] max2_int min2_int max_two min_two max_three min_three max_four min_four   -- for this text's walks alone
set_option linter.unusedVariables false
set_option linter.unusedSimpArgs false

/-! ### sha_Sum: function 42 -/
mutual
def sha_Sum.l0 : Nat → ByteArray → List Int → Int → Option (ByteArray)
 | 0, _, _, _ => none
 | k + 1, x0, x3, x4 => if (x0.size : Int) ≥ 64 then (if 0 ≤ 64 then (if 64 ≤ (x0.size : Int) then ((sha_state_block.f k x3 (x0.extract 0 64)).bind fun t158 => (sha_Sum.l0 k (x0.extract 64 x0.size) t158 x4)) else (none)) else (none)) else ((some (List.replicate 128 0 : List Int)).bind fun y159 => (if y159.length = 128 then (if 0 < (y159.length : Int) then (if x0.size ≤ y159.length then ((some (bytesOf x0 ++ y159.drop x0.size : List Int)).bind fun y162 => (if (x0.size : Int) ≥ 56 then (sha_Sum.j1 k x0 x3 x4 y162 128) else (sha_Sum.j1 k x0 x3 x4 y162 64))) else (none)) else (none)) else (none)))
def sha_Sum.j1 : Nat → ByteArray → List Int → Int → List Int → Int → Option (ByteArray)
 | 0, _, _, _, _, _ => none
 | k + 1, x0, x3, x4, x5, x6 => if x5.length = 128 then (if 0 ≤ (x0.size : Int) then (if (x0.size : Int) < (x5.length : Int) then (sha_Sum.l1 k x3 x4 (x5.set ((x0.size : Int) : Int).toNat 128) x6 0) else (none)) else (none)) else (none)
def sha_Sum.l1 : Nat → List Int → Int → List Int → Int → Int → Option (ByteArray)
 | 0, _, _, _, _, _ => none
 | k + 1, x3, x4, x5, x6, x31 => if x31 < 8 then (if 0 ≤ (wrap64 (8 * x31)) then (if x5.length = 128 then (if 0 ≤ (wrap64 ((wrap64 (x6 - 1)) - x31)) then (if (wrap64 ((wrap64 (x6 - 1)) - x31)) < (x5.length : Int) then (sha_Sum.l1 k x3 x4 (x5.set ((wrap64 ((wrap64 (x6 - 1)) - x31)) : Int).toNat ((shr .u64 x4 (wrap64 (8 * x31))) % 256)) x6 (wrap64 (x31 + 1))) else (none)) else (none)) else (none)) else (none)) else (if x5.length = 128 then (if 0 ≤ x6 then (if x6 ≤ 128 then (if 0 < (x5.length : Int) then (sha_Sum.l2 k x3 (strOfNums (x5.take (x6 : Int).toNat))) else (none)) else (none)) else (none)) else (none))
def sha_Sum.l2 : Nat → List Int → ByteArray → Option (ByteArray)
 | 0, _, _ => none
 | k + 1, x3, x8 => if x8.toList = ([] : List UInt8) then (sha_Sum.l3 k x3 (List.replicate 32 0) 0) else (if 0 ≤ 64 then (if 64 ≤ (x8.size : Int) then ((sha_state_block.f k x3 (x8.extract 0 64)).bind fun t165 => (sha_Sum.l2 k t165 (x8.extract 64 x8.size))) else (none)) else (none))
def sha_Sum.l3 : Nat → List Int → List Int → Int → Option (ByteArray)
 | 0, _, _, _ => none
 | k + 1, x3, x9, x55 => if x55 < 32 then (if x3.length = 8 then (if 0 ≤ (wrap64 (Int.tdiv x55 4)) then (if (wrap64 (Int.tdiv x55 4)) < (x3.length : Int) then (if 0 ≤ (wrap64 (24 - (wrap64 (8 * (Int.tmod x55 4))))) then (if x9.length = 32 then (if 0 ≤ x55 then (if x55 < (x9.length : Int) then (sha_Sum.l3 k x3 (x9.set (x55 : Int).toNat ((shr .u32 (rd x3 (wrap64 (Int.tdiv x55 4))) (wrap64 (24 - (wrap64 (8 * (Int.tmod x55 4)))))) % 256)) (wrap64 (x55 + 1))) else (none)) else (none)) else (none)) else (none)) else (none)) else (none)) else (none)) else (if x9.length = 32 then (if 0 < (x9.length : Int) then (some (strOfNums (x9.take 32))) else (none)) else (none))
end
def sha_Sum.f (k : Nat) (a0 : ByteArray) : Option (ByteArray) := (sha_begin.f).bind fun _ => ((some (List.replicate 8 0 : List Int)).bind fun y154 => (if y154.length = 8 then (if 0 < (y154.length : Int) then (sha_Sum.l0 k a0 ([1779033703, 3144134277, 1013904242, 2773480762, 1359893119, 2600822924, 528734635, 1541459225]) (IntKind.u64.wrap ((IntKind.u64.wrap ((a0.size : Int))) * 8))) else (none)) else (none)))
theorem sha_Sum.mono_l : ∀ k, (∀ y0 y1 y2, LeO (sha_Sum.l0 k y0 y1 y2) (sha_Sum.l0 (k + 1) y0 y1 y2)) ∧ (∀ y0 y1 y2 y3 y4, LeO (sha_Sum.j1 k y0 y1 y2 y3 y4) (sha_Sum.j1 (k + 1) y0 y1 y2 y3 y4)) ∧ (∀ y0 y1 y2 y3 y4, LeO (sha_Sum.l1 k y0 y1 y2 y3 y4) (sha_Sum.l1 (k + 1) y0 y1 y2 y3 y4)) ∧ (∀ y0 y1, LeO (sha_Sum.l2 k y0 y1) (sha_Sum.l2 (k + 1) y0 y1)) ∧ (∀ y0 y1 y2, LeO (sha_Sum.l3 k y0 y1 y2) (sha_Sum.l3 (k + 1) y0 y1 y2))
 | 0 => ⟨fun _ _ _ r h => by simp [sha_Sum.l0] at h, fun _ _ _ _ _ r h => by simp [sha_Sum.j1] at h, fun _ _ _ _ _ r h => by simp [sha_Sum.l1] at h, fun _ _ r h => by simp [sha_Sum.l2] at h, fun _ _ _ r h => by simp [sha_Sum.l3] at h⟩
 | k + 1 => by
  obtain ⟨ih0, ih1, ih2, ih3, ih4⟩ := sha_Sum.mono_l k
  refine ⟨?_, ?_, ?_, ?_, ?_⟩
  ·intro y0 y1 y2
   unfold sha_Sum.l0
   repeat' first
   | (with_reducible exact ih0 _ _ _)
   | (with_reducible exact ih1 _ _ _ _ _)
   | (with_reducible exact ih2 _ _ _ _ _)
   | (with_reducible exact ih3 _ _)
   | (with_reducible exact ih4 _ _ _)
   | (with_reducible exact sha_state_block.mono _ _ _)
   | (with_reducible exact LeO.refl _)
   | (with_reducible exact LeO.none _)
   | (with_reducible refine LeO.ite ?_ ?_)
   | (with_reducible refine LeO.bind ?_ (fun _ => ?_))
   | exact ih0 _ _ _
   | exact ih1 _ _ _ _ _
   | exact ih2 _ _ _ _ _
   | exact ih3 _ _
   | exact ih4 _ _ _
   | exact sha_state_block.mono _ _ _
   | exact LeO.none _
   | refine LeO.ite ?_ ?_
   | refine LeO.bind ?_ (fun _ => ?_)
  ·intro y0 y1 y2 y3 y4
   unfold sha_Sum.j1
   repeat' first
   | (with_reducible exact ih0 _ _ _)
   | (with_reducible exact ih1 _ _ _ _ _)
   | (with_reducible exact ih2 _ _ _ _ _)
   | (with_reducible exact ih3 _ _)
   | (with_reducible exact ih4 _ _ _)
   | (with_reducible exact sha_state_block.mono _ _ _)
   | (with_reducible exact LeO.refl _)
   | (with_reducible exact LeO.none _)
   | (with_reducible refine LeO.ite ?_ ?_)
   | (with_reducible refine LeO.bind ?_ (fun _ => ?_))
   | exact ih0 _ _ _
   | exact ih1 _ _ _ _ _
   | exact ih2 _ _ _ _ _
   | exact ih3 _ _
   | exact ih4 _ _ _
   | exact sha_state_block.mono _ _ _
   | exact LeO.none _
   | refine LeO.ite ?_ ?_
   | refine LeO.bind ?_ (fun _ => ?_)
  ·intro y0 y1 y2 y3 y4
   unfold sha_Sum.l1
   repeat' first
   | (with_reducible exact ih0 _ _ _)
   | (with_reducible exact ih1 _ _ _ _ _)
   | (with_reducible exact ih2 _ _ _ _ _)
   | (with_reducible exact ih3 _ _)
   | (with_reducible exact ih4 _ _ _)
   | (with_reducible exact sha_state_block.mono _ _ _)
   | (with_reducible exact LeO.refl _)
   | (with_reducible exact LeO.none _)
   | (with_reducible refine LeO.ite ?_ ?_)
   | (with_reducible refine LeO.bind ?_ (fun _ => ?_))
   | exact ih0 _ _ _
   | exact ih1 _ _ _ _ _
   | exact ih2 _ _ _ _ _
   | exact ih3 _ _
   | exact ih4 _ _ _
   | exact sha_state_block.mono _ _ _
   | exact LeO.none _
   | refine LeO.ite ?_ ?_
   | refine LeO.bind ?_ (fun _ => ?_)
  ·intro y0 y1
   unfold sha_Sum.l2
   repeat' first
   | (with_reducible exact ih0 _ _ _)
   | (with_reducible exact ih1 _ _ _ _ _)
   | (with_reducible exact ih2 _ _ _ _ _)
   | (with_reducible exact ih3 _ _)
   | (with_reducible exact ih4 _ _ _)
   | (with_reducible exact sha_state_block.mono _ _ _)
   | (with_reducible exact LeO.refl _)
   | (with_reducible exact LeO.none _)
   | (with_reducible refine LeO.ite ?_ ?_)
   | (with_reducible refine LeO.bind ?_ (fun _ => ?_))
   | exact ih0 _ _ _
   | exact ih1 _ _ _ _ _
   | exact ih2 _ _ _ _ _
   | exact ih3 _ _
   | exact ih4 _ _ _
   | exact sha_state_block.mono _ _ _
   | exact LeO.none _
   | refine LeO.ite ?_ ?_
   | refine LeO.bind ?_ (fun _ => ?_)
  ·intro y0 y1 y2
   unfold sha_Sum.l3
   repeat' first
   | (with_reducible exact ih0 _ _ _)
   | (with_reducible exact ih1 _ _ _ _ _)
   | (with_reducible exact ih2 _ _ _ _ _)
   | (with_reducible exact ih3 _ _)
   | (with_reducible exact ih4 _ _ _)
   | (with_reducible exact sha_state_block.mono _ _ _)
   | (with_reducible exact LeO.refl _)
   | (with_reducible exact LeO.none _)
   | (with_reducible refine LeO.ite ?_ ?_)
   | (with_reducible refine LeO.bind ?_ (fun _ => ?_))
   | exact ih0 _ _ _
   | exact ih1 _ _ _ _ _
   | exact ih2 _ _ _ _ _
   | exact ih3 _ _
   | exact ih4 _ _ _
   | exact sha_state_block.mono _ _ _
   | exact LeO.none _
   | refine LeO.ite ?_ ?_
   | refine LeO.bind ?_ (fun _ => ?_)
theorem sha_Sum.mono : ∀ a0 k, LeO (sha_Sum.f k a0) (sha_Sum.f (k + 1) a0) := by
 intro a0 k
 obtain ⟨ih0, ih1, ih2, ih3, ih4⟩ := sha_Sum.mono_l k
 unfold sha_Sum.f
 repeat' first
  | (with_reducible exact ih0 _ _ _)
  | (with_reducible exact ih1 _ _ _ _ _)
  | (with_reducible exact ih2 _ _ _ _ _)
  | (with_reducible exact ih3 _ _)
  | (with_reducible exact ih4 _ _ _)
  | (with_reducible exact sha_state_block.mono _ _ _)
  | (with_reducible exact LeO.refl _)
  | (with_reducible exact LeO.none _)
  | (with_reducible refine LeO.ite ?_ ?_)
  | (with_reducible refine LeO.bind ?_ (fun _ => ?_))
  | exact ih0 _ _ _
  | exact ih1 _ _ _ _ _
  | exact ih2 _ _ _ _ _
  | exact ih3 _ _
  | exact ih4 _ _ _
  | exact sha_state_block.mono _ _ _
  | exact LeO.none _
  | refine LeO.ite ?_ ?_
  | refine LeO.bind ?_ (fun _ => ?_)
set_option maxHeartbeats 64000000 in
set_option maxRecDepth 100000 in
theorem sha_Sum.calls (k : Nat) (a0 : ByteArray) (r : ByteArray) (w : World) (hrG : Kd.C (Kd.int .u32) w (some ⟨0, 0, none⟩) keysL.length keysL) (h : sha_Sum.f k a0 = some r) :
 Calls Tryd.prog 42 #[.string a0] w fun e w' => e = .returned (.string r) ∧ Below w.heap.size w w' := by
 have hu68 := Tryd.underlying68
 have hu73 := Tryd.underlying73
 have HRG := Aside0.mk hrG
 clear hrG
 have HB := Aside0.mk (Below.refl w.heap.size w)
 have H : ((sha_begin.f).bind fun _ => ((some (List.replicate 8 0 : List Int)).bind fun y154 => (if y154.length = 8 then (if 0 < (y154.length : Int) then (sha_Sum.l0 k a0 ([1779033703, 3144134277, 1013904242, 2773480762, 1359893119, 2600822924, 528734635, 1541459225]) (IntKind.u64.wrap ((IntKind.u64.wrap ((a0.size : Int))) * 8))) else (none)) else (none)))) = some r := h
 clear h
 replace H := Option.bind_eq_some_iff.mp H
 obtain ⟨_, A20, H⟩ := H
 replace H : ((some (List.replicate 8 0 : List Int)).bind fun y154 => (if y154.length = 8 then (if 0 < (y154.length : Int) then (sha_Sum.l0 k a0 ([1779033703, 3144134277, 1013904242, 2773480762, 1359893119, 2600822924, 528734635, 1541459225]) (IntKind.u64.wrap ((IntKind.u64.wrap ((a0.size : Int))) * 8))) else (none)) else (none))) = some r := H
 have A2 := Aside0.mk A20
 clear A20
 obtain ⟨y154, hy154⟩ : ∃ y_ : List Int, y_ = (List.replicate 8 0) := ⟨_, rfl⟩
 replace H : (if y154.length = 8 then (if 0 < (y154.length : Int) then (sha_Sum.l0 k a0 ([1779033703, 3144134277, 1013904242, 2773480762, 1359893119, 2600822924, 528734635, 1541459225]) (IntKind.u64.wrap ((IntKind.u64.wrap ((a0.size : Int))) * 8))) else (none)) else (none)) = some r := by first | (rw [hy154]; with_reducible exact H) | (have H2_ := (Option.bind_some _ _).symm.trans H; rw [hy154]; with_reducible exact H2_) | (have H2_ := (Option.bind_some _ _).symm.trans H; with_reducible exact H2_) | with_reducible exact H | (rw [hy154]; exact H) | exact H
 have Ny154 := Aside0.mk hy154
 clear hy154
 by_cases c3 : y154.length = 8
 rotate_left
 ·rw [if_neg c3] at H
  exact absurd H (by simp)
 rw [if_pos c3] at H
 have c3b0 := eq_true c3
 have c3b1 : decide (y154.length = 8) = true := decide_eq_true c3
 clear c3
 by_cases c4 : 0 < (y154.length : Int)
 rotate_left
 ·rw [if_neg c4] at H
  exact absurd H (by simp)
 rw [if_pos c4] at H
 have c4b0 : decide (0 < (y154.length : Int)) = true := decide_eq_true c4
 have c4b1 : decide (0 < y154.length) = true := decide_eq_true (by omega)
 clear c4
 obtain ⟨y157, hy157⟩ : ∃ y_ : List Int, y_ = ([1779033703, 3144134277, 1013904242, 2773480762, 1359893119, 2600822924, 528734635, 1541459225]) := ⟨_, rfl⟩
 replace H : (sha_Sum.l0 k a0 y157 (IntKind.u64.wrap ((IntKind.u64.wrap ((a0.size : Int))) * 8))) = some r := by first | (rw [hy157]; with_reducible exact H) | (have H2_ := (Option.bind_some _ _).symm.trans H; rw [hy157]; with_reducible exact H2_) | (have H2_ := (Option.bind_some _ _).symm.trans H; with_reducible exact H2_) | with_reducible exact H | (rw [hy157]; exact H) | exact H
 have Ny157 := Aside0.mk hy157
 clear hy157
 have H' := Aside0.mk H
 clear H
 go_enter Tryd.func42, Tryd.ntmps42
 go_wp2_with (first | ((with_reducible refine gate_callee (f := 48) rfl ?_); refine goesL_ (some 11) rfl rfl Tryd.func48 (by kernel_rfl) rfl #[] rfl (by (try simp only [List.map_toArray, List.map_cons, List.map_nil]); first | done | rfl | (simp only [List.length_drop, List.length_take]; rfl)) ?_; (with_reducible refine (sha_begin.calls   _ A2.out).mono ?_); rintro e w6 ⟨rfl, hb⟩; refine ⟨_, rfl, ?_⟩; have n0_ := Aside0.mk (below_step (by repeat (first | (with_reducible first | exact HB.out | apply below_alloc | apply pw_below_drewN | apply below_drew1) | exact HB.out)) hb); clear HB; have HB := n0_; clear n0_; (try clear hb); (try clear hb2); (try clear hk); (try clear hi)) | ((with_reducible refine gate_dst (N := 3) rfl ?_); refine R_arr (Value.int .u32) (fun _ => rfl) _ 68 ?hg (N := 3) ?hd (List.replicate 8 0) ?hr (Below.refl _ _) (Nat.le_refl _) (by decide) ?_; (case hd => rfl); (case hg => rfl); (case hr => first | (go_simp; done) | (go_simp; rfl)); intro v155 w7 ho8 hb hg_ hnew_; clear hg_ hnew_; (first | rw [← Ny154.out] at ho8 | (simp only [Int.reduceToNat] at ho8; rw [← Ny154.out] at ho8)); have n0_ := Aside0.mk (Kd.R_lower ho8 (below_size (by repeat (first | (with_reducible first | exact HB.out | apply below_alloc | apply pw_below_drewN | apply below_drew1) | exact HB.out)))); have n1_ := Aside0.mk (below_step (by repeat (first | (with_reducible first | exact HB.out | apply below_alloc | apply pw_below_drewN | apply below_drew1) | exact HB.out)) hb); clear HB; have HO156 := n0_; have HB := n1_; clear n0_ n1_; clear hb ho8; have qa5 : ((0 : Int) < (8 : Int)) = True := eq_true (by have e_ : y154.length = 8 := of_decide_eq_true (by first | (with_reducible assumption) | assumption); have h_ : (0 : Int) < ((y154.length : Int) : Int) := of_decide_eq_true (by first | (with_reducible assumption) | assumption); omega); have p5 : 0 ≤ (0 : Int) := (by omega); have q5 : (0 : Int) < ((y154.length : Int) : Int) := of_decide_eq_true (by first | (with_reducible assumption) | assumption); have qi5 : (0 < y154.length) = True := eq_true (by omega); obtain ⟨go5, co5, eo5, gb5, gl5, cl5, HG5⟩ := Kd.R_form HO156.out (by omega); (first | cases eo5 | (injection eo5 with ea_ en_ ec_; (first | subst ea_ | (injection ea_ with ea_; subst ea_)); subst ec_; clear en_)); have GB5 := Aside0.mk gb5; have GG5 := Aside0.mk HG5; clear gb5 gl5 HG5; obtain ⟨hx5_0, hf5_0⟩ := Kd.R_celln 0 HO156.out (0 : Int) p5 q5; (try rw [show ((0 : Int)).toNat = 0 from rfl] at hx5_0); (try simp only [Nat.reduceMul, Nat.zero_mul, Nat.zero_add, Nat.reduceAdd] at hx5_0); (try rw [show ((0 : Int)).toNat = 0 from rfl] at hf5_0); (try simp only [Nat.reduceMul, Nat.zero_mul, Nat.zero_add, Nat.reduceAdd] at hf5_0); replace p5 := eq_true p5; replace q5 := eq_true q5; have HP9 := R_whole (ys := [1779033703, 3144134277, 1013904242, 2773480762, 1359893119, 2600822924, 528734635, 1541459225]) HO156.out (by have e_ : y154.length = 8 := of_decide_eq_true (by first | (with_reducible assumption) | assumption); have e2_ := (Kd.R_reads' HO156.out).1; first | (rw [e_]; rfl) | (simp only [List.length_cons, List.length_nil]; omega))) | ((with_reducible refine gate_store (t := 68) (p := 3) rfl ?_); refine store_event (t := 68) (p := 3) (v := ?vo_w10) (w1 := (w7.setCells go5 0 (encs (Value.int .u32) [1779033703, 3144134277, 1013904242, 2773480762, 1359893119, 2600822924, 528734635, 1541459225]))) ?hg ?ho ?hn ?hr ?_; (case ho => rfl); (case hg => rfl); (case hn => rfl); (case hr => exact whole_run (ys := [1779033703, 3144134277, 1013904242, 2773480762, 1359893119, 2600822924, 528734635, 1541459225]) rfl rfl rfl (by kernel_rfl) HO156.out (by have e_ : y154.length = 8 := of_decide_eq_true (by first | (with_reducible assumption) | assumption); have e2_ := (Kd.R_reads' HO156.out).1; first | (rw [e_]; rfl) | (simp only [List.length_cons, List.length_nil]; omega))); intro w10 hw; have hg : w7.grownBy w10 (some go5) := (by rw [hw]; exact HP9.2); have hp_ : Kd.R (Kd.int .u32) 68 w10 w.heap.size (fun _ => True) (.slice (some ⟨go5, 0, none⟩) y154.length co5) y157 := (by rw [hw, Ny157.out]; exact HP9.1); clear HP9; have n0_ := Aside0.mk (hp_); have n1_ := Aside0.mk ((Below.grown HB.out hg (below_size HB.out) (fun k_ e_ => (Option.some.inj e_) ▸ GB5.out) : Below w.heap.size w w10)); clear HO156; clear HB; have HO156 := n0_; have HB := n1_; clear n0_ n1_; clear hg hw hp_))
 go_loopg [0] k (fun kq v0 w' => ∃ (x0_1 : ByteArray) (x3_1 : List Int), v0 = .string x0_1 ∧ Aside0 (sha_Sum.l0 kq x0_1 x3_1 (IntKind.u64.wrap ((IntKind.u64.wrap ((a0.size : Int))) * 8)) = some r) ∧ Aside0 (kq ≤ k) ∧ Aside0 (Kd.R (Kd.int .u32) 68 w' w.heap.size (fun _ => True) (.slice (some ⟨go5, 0, none⟩) y154.length co5) x3_1) ∧ Aside0 (Below w.heap.size w w'))
 case atStart => exact ⟨(a0), (y157), (by first | rfl | (simp; done) | (simp [*]; done) | exact congrArg Value.bool (nonempty_l _) | (refine congrArg (Value.int _) ?_; first | omega | (unfold Go.RowKit.wrap64; omega))), H', ⟨Nat.le_refl _⟩, ⟨by (with_reducible repeat (first | apply Kd.R_alloc | apply Kd.R_drewN | apply Kd.R_drew)); exact HO156.out⟩, ⟨by repeat (first | (with_reducible first | exact HB.out | apply below_alloc | apply pw_below_drewN | apply below_drew1) | exact HB.out)⟩⟩
 case round =>
  clear H'
  (try clear p2); (try clear c3); (try clear c3b0); (try clear c3b1); (try clear c4); (try clear c4b0); (try clear c4b1); (try clear p5); (try clear q5); (try clear hx5); (try clear qi5); (try clear hf5); (try clear p6); (try clear hx5_0); (try clear p5); (try clear q5)
  obtain ⟨x0_1, x3_1, rfl, HA, HK1, HO_3, HB⟩ := hrel
  have hl3_1 := (Kd.R_reads' HO_3.out).1
  rw [hl3_1] at HO_3
  (try simp only [hl3_1])
  cases gk with
  | zero => exact absurd HA.out (by simp [sha_Sum.l0])
  | succ k1 =>
   have H := HA.out
   clear HA
   simp only [sha_Sum.l0] at H
   by_cases c11 : (x0_1.size : Int) ≥ 64
   ·rw [if_pos c11] at H
    have c11b0 : decide (64 ≤ (x0_1.size : Int)) = true := decide_eq_true c11
    have c11b1 : decide (64 ≤ x0_1.size) = true := decide_eq_true (by omega)
    (try (have c11b7 := c11b0; simp only [hl3_1] at c11b7))
    (try (have c11b8 := c11b1; simp only [hl3_1] at c11b8))
    clear c11
    by_cases c12 : 0 ≤ 64
    rotate_left
    ·rw [if_neg c12] at H
     exact absurd H (by simp)
    rw [if_pos c12] at H
    have c12b0 := eq_true c12
    have c12b1 : decide (0 ≤ 64) = true := decide_eq_true c12
    clear c12
    by_cases c13 : 64 ≤ (x0_1.size : Int)
    rotate_left
    ·rw [if_neg c13] at H
     exact absurd H (by simp)
    rw [if_pos c13] at H
    have c13b0 := eq_true c13
    have c13b1 : decide (64 ≤ (x0_1.size : Int)) = true := decide_eq_true c13
    clear c13
    replace H := Option.bind_eq_some_iff.mp H
    obtain ⟨t158, A140, H⟩ := H
    replace H : (sha_Sum.l0 k1 (x0_1.extract 64 x0_1.size) t158 (IntKind.u64.wrap ((IntKind.u64.wrap ((a0.size : Int))) * 8))) = some r := H
    have A14 := Aside0.mk A140
    clear A140
    have c15b0 := eq_true (of_decide_eq_true (by first | (with_reducible assumption) | assumption) : 64 ≤ (x0_1.size : Int))
    have H' := Aside0.mk H
    clear H
    go_wp2_with (first | ((with_reducible refine gate_callee (f := 49) rfl ?_); refine goesL_ (some 21) rfl rfl Tryd.func49 (by kernel_rfl) rfl #[.pointer (some ⟨go5, 0, none⟩), .string (x0_1.extract 0 64)] rfl (by (try simp only [List.map_toArray, List.map_cons, List.map_nil]); first | done | rfl | (simp only [List.length_drop, List.length_take]; rfl)) ?_; (with_reducible refine (sha_state_block.calls k1 (fun k_ => some k_ = (.slice (some ⟨go5, 0, none⟩) x3_1.length co5 : Value).ownBlock) (.slice (some ⟨go5, 0, none⟩) x3_1.length co5) x3_1 (x0_1.extract 0 64) t158 w _ ?side1 ?side2 ?side3 A14.out).mono ?_); (case side1 => repeat (first | (with_reducible first | exact HB.out | apply below_alloc | apply pw_below_drewN | apply below_drew1) | exact HB.out)); (case side2 => exact Kd.R_tight rfl HO_3.out); (case side3 => exact Kd.C_kept_came (Kd.heap_int .u32) HRG.out (by repeat (first | (with_reducible first | exact HB.out | apply below_alloc | apply pw_below_drewN | apply below_drew1) | exact HB.out)) (fun k_ hs_ => (fun e_ => Kd.R_base HO_3.out k_ e_.symm) hs_)); rintro e w16 ⟨rfl, hy0, hb, hkp⟩; refine ⟨_, rfl, ?_⟩; have n0_ := Aside0.mk (Kd.R_reok rfl hy0 (fun k_ e_ => HO_3.out.1 k_ e_)); have n1_ := Aside0.mk (hb); clear HO_3; clear HB; have HO_3 := n0_; have HB := n1_; clear n0_ n1_; (try clear hb); (try clear hkp); (try clear hy0)))
    (try simp only [← hl3_1])
    go_roundg k1
    case measure => have := HK1.out; omega
    case rel => exact ⟨(x0_1.extract 64 x0_1.size), (t158), (by first | rfl | (simp; done) | (simp [*]; done) | exact congrArg Value.bool (nonempty_l _) | (refine congrArg (Value.int _) ?_; first | omega | (unfold Go.RowKit.wrap64; omega))), H', ⟨by have := HK1.out; omega⟩, ⟨by (try simp only [hl3_1]); (with_reducible repeat (first | apply Kd.R_alloc | apply Kd.R_drewN | apply Kd.R_drew)); exact HO_3.out⟩, ⟨by repeat (first | (with_reducible first | exact HB.out | apply below_alloc | apply pw_below_drewN | apply below_drew1) | exact HB.out)⟩⟩
   ·rw [if_neg c11] at H
    have c11b0 : decide (64 ≤ (x0_1.size : Int)) = false := decide_eq_false c11
    have c11b1 : decide (64 ≤ x0_1.size) = false := decide_eq_false (by omega)
    (try (have c11b7 := c11b0; simp only [hl3_1] at c11b7))
    (try (have c11b8 := c11b1; simp only [hl3_1] at c11b8))
    clear c11
    obtain ⟨y159, hy159⟩ : ∃ y_ : List Int, y_ = (List.replicate 128 0) := ⟨_, rfl⟩
    replace H : (if y159.length = 128 then (if 0 < (y159.length : Int) then (if x0_1.size ≤ y159.length then ((some (bytesOf x0_1 ++ y159.drop x0_1.size : List Int)).bind fun y162 => (if (x0_1.size : Int) ≥ 56 then (sha_Sum.j1 k1 x0_1 x3_1 (IntKind.u64.wrap ((IntKind.u64.wrap ((a0.size : Int))) * 8)) y162 128) else (sha_Sum.j1 k1 x0_1 x3_1 (IntKind.u64.wrap ((IntKind.u64.wrap ((a0.size : Int))) * 8)) y162 64))) else (none)) else (none)) else (none)) = some r := by first | (rw [hy159]; with_reducible exact H) | (have H2_ := (Option.bind_some _ _).symm.trans H; rw [hy159]; with_reducible exact H2_) | (have H2_ := (Option.bind_some _ _).symm.trans H; with_reducible exact H2_) | with_reducible exact H | (rw [hy159]; exact H) | exact H
    have Ny159 := Aside0.mk hy159
    clear hy159
    by_cases c17 : y159.length = 128
    rotate_left
    ·rw [if_neg c17] at H
     exact absurd H (by simp)
    rw [if_pos c17] at H
    have c17b0 := eq_true c17
    have c17b1 : decide (y159.length = 128) = true := decide_eq_true c17
    clear c17
    by_cases c18 : 0 < (y159.length : Int)
    rotate_left
    ·rw [if_neg c18] at H
     exact absurd H (by simp)
    rw [if_pos c18] at H
    have c18b0 : decide (0 < (y159.length : Int)) = true := decide_eq_true c18
    have c18b1 : decide (0 < y159.length) = true := decide_eq_true (by omega)
    (try (have c18b7 := c18b0; simp only [hl3_1] at c18b7))
    (try (have c18b8 := c18b1; simp only [hl3_1] at c18b8))
    clear c18
    by_cases c20 : x0_1.size ≤ y159.length
    rotate_left
    ·rw [if_neg c20] at H
     exact absurd H (by simp)
    rw [if_pos c20] at H
    have c20b0 := eq_true c20
    have c20b1 : decide (x0_1.size ≤ y159.length) = true := decide_eq_true c20
    clear c20
    obtain ⟨y162, hy162⟩ : ∃ y_ : List Int, y_ = (bytesOf x0_1 ++ y159.drop x0_1.size) := ⟨_, rfl⟩
    replace H : (if (x0_1.size : Int) ≥ 56 then (sha_Sum.j1 k1 x0_1 x3_1 (IntKind.u64.wrap ((IntKind.u64.wrap ((a0.size : Int))) * 8)) y162 128) else (sha_Sum.j1 k1 x0_1 x3_1 (IntKind.u64.wrap ((IntKind.u64.wrap ((a0.size : Int))) * 8)) y162 64)) = some r := by first | (rw [hy162]; with_reducible exact H) | (have H2_ := (Option.bind_some _ _).symm.trans H; rw [hy162]; with_reducible exact H2_) | (have H2_ := (Option.bind_some _ _).symm.trans H; with_reducible exact H2_) | with_reducible exact H | (rw [hy162]; exact H) | exact H
    have Ny162 := Aside0.mk hy162
    clear hy162
    have HC22 := Aside0.mk H
    clear H
    go_upto_if 27 with (first | ((with_reducible refine gate_dst (N := 5) rfl ?_); refine R_arr (Value.int .u8) (fun _ => rfl) _ 72 ?hg (N := 5) ?hd (List.replicate 128 0) ?hr (Below.refl _ _) (Nat.le_refl _) (by decide) ?_; (case hd => rfl); (case hg => rfl); (case hr => first | (go_simp; done) | (go_simp; rfl)); intro v160 w23 ho24 hb hg_ hnew_; clear hg_ hnew_; (first | rw [← Ny159.out] at ho24 | (simp only [Int.reduceToNat] at ho24; rw [← Ny159.out] at ho24)); have n0_ := Aside0.mk (Kd.R_below (by (with_reducible repeat (first | apply Kd.R_alloc | apply Kd.R_drewN | apply Kd.R_drew)); exact HO_3.out) hb); have n1_ := Aside0.mk (Kd.R_lower ho24 (below_size (by repeat (first | (with_reducible first | exact HB.out | apply below_alloc | apply pw_below_drewN | apply below_drew1) | exact HB.out)))); have n2_ := Aside0.mk (below_step (by repeat (first | (with_reducible first | exact HB.out | apply below_alloc | apply pw_below_drewN | apply below_drew1) | exact HB.out)) hb); clear HO_3; clear HB; have HO_3 := n0_; have HO161 := n1_; have HB := n2_; clear n0_ n1_ n2_; clear hb ho24; have qa19 : ((0 : Int) < (128 : Int)) = True := eq_true (by have e_ : y159.length = 128 := of_decide_eq_true (by first | (with_reducible assumption) | assumption); have h_ : (0 : Int) < ((y159.length : Int) : Int) := of_decide_eq_true (by first | (with_reducible assumption) | assumption); omega); have p19 : 0 ≤ (0 : Int) := (by omega); have q19 : (0 : Int) < ((y159.length : Int) : Int) := of_decide_eq_true (by first | (with_reducible assumption) | assumption); have qi19 : (0 < y159.length) = True := eq_true (by omega); obtain ⟨go19, co19, eo19, gb19, gl19, cl19, HG19⟩ := Kd.R_form HO161.out (by omega); (first | cases eo19 | (injection eo19 with ea_ en_ ec_; (first | subst ea_ | (injection ea_ with ea_; subst ea_)); subst ec_; clear en_)); have GB19 := Aside0.mk gb19; have GG19 := Aside0.mk HG19; clear gb19 gl19 HG19; obtain ⟨hx19_0, hf19_0⟩ := Kd.R_celln 0 HO161.out (0 : Int) p19 q19; (try rw [show ((0 : Int)).toNat = 0 from rfl] at hx19_0); (try simp only [Nat.reduceMul, Nat.zero_mul, Nat.zero_add, Nat.reduceAdd] at hx19_0); (try rw [show ((0 : Int)).toNat = 0 from rfl] at hf19_0); (try simp only [Nat.reduceMul, Nat.zero_mul, Nat.zero_add, Nat.reduceAdd] at hf19_0); replace p19 := eq_true p19; replace q19 := eq_true q19) | ((with_reducible refine gate_dst (N := 24) rfl ?_); refine aslice_event (P := Tryd.prog) rfl (N := 24) rfl 72 5 128 _ _ rfl rfl Tryd.underlying72 (by go_simp) ?_; have qa21 : ((0 : Int) < (128 : Int)) = True := eq_true (by have e_ : y159.length = 128 := of_decide_eq_true (by first | (with_reducible assumption) | assumption); have h_ : (0 : Int) < ((y159.length : Int) : Int) := of_decide_eq_true (by first | (with_reducible assumption) | assumption); omega); have p21 : 0 ≤ (0 : Int) := (by omega); have q21 : (0 : Int) < ((y159.length : Int) : Int) := of_decide_eq_true (by first | (with_reducible assumption) | assumption); have qi21 : (0 < y159.length) = True := eq_true (by omega); obtain ⟨hx21_0, hf21_0⟩ := Kd.R_celln 0 HO161.out (0 : Int) p21 q21; (try rw [show ((0 : Int)).toNat = 0 from rfl] at hx21_0); (try simp only [Nat.reduceMul, Nat.zero_mul, Nat.zero_add, Nat.reduceAdd] at hx21_0); (try rw [show ((0 : Int)).toNat = 0 from rfl] at hf21_0); (try simp only [Nat.reduceMul, Nat.zero_mul, Nat.zero_add, Nat.reduceAdd] at hf21_0); replace p21 := eq_true p21; replace q21 := eq_true q21) | ((with_reducible refine gate_dst (N := 26) rfl ?_); refine acopy_event (P := Tryd.prog) rfl (N := 26) rfl 53 9 5 _ _ rfl Tryd.underlying53 (by kernel_rfl) rfl x0_1 rfl HO161.out (by have e_ : y159.length = 128 := of_decide_eq_true (by first | (with_reducible assumption) | assumption); have e2_ := (Kd.R_reads' HO161.out).1; omega) (of_decide_eq_true (by first | (with_reducible assumption) | assumption)) ?_; intro w27 hp_ hg; have hw := trivial; rw [← Ny162.out] at hp_; have n0_ := Aside0.mk (Kd.R_over' (v := (.slice (some ⟨go19, 0, none⟩) y159.length co19)) (by (with_reducible repeat (first | apply Kd.R_alloc | apply Kd.R_drewN | apply Kd.R_drew)); exact HO_3.out) (Kd.R_typed HO161.out) (by decide) hg); have n1_ := Aside0.mk (hp_); have n2_ := Aside0.mk ((Below.grown HB.out hg (below_size HB.out) (fun k_ e_ => (Option.some.inj e_) ▸ GB19.out) : Below w.heap.size w w27)); clear HO_3; clear HO161; clear HB; have HO_3 := n0_; have HO161 := n1_; have HB := n2_; clear n0_ n1_ n2_; clear hg hw hp_))
    (try simp only [Act.put, List.setIfInBounds_toArray, List.set_cons_zero, List.set_cons_succ])
    go_cut [6] (fun v6 wc => ∃ (kq : Nat) (x6_21 : Int), v6 = .int .i64 x6_21 ∧ Aside0 (sha_Sum.j1 kq x0_1 x3_1 (IntKind.u64.wrap ((IntKind.u64.wrap ((a0.size : Int))) * 8)) y162 x6_21 = some r) ∧ Aside0 (kq ≤ k1) ∧ Aside0 (Kd.R (Kd.int .u32) 68 wc w.heap.size (fun _ => True) (.slice (some ⟨go5, 0, none⟩) x3_1.length co5) x3_1) ∧ Aside0 (Kd.R (Kd.int .u8) 72 wc w.heap.size (fun _ => True) (.slice (some ⟨go19, 0, none⟩) y159.length co19) y162) ∧ Aside0 (Below w.heap.size w wc))
    case first =>
     have H := HC22.out
     clear HC22
     by_cases c28 : (x0_1.size : Int) ≥ 56
     ·rw [if_pos c28] at H
      have c28b0 : decide (56 ≤ (x0_1.size : Int)) = true := decide_eq_true c28
      have c28b1 : decide (56 ≤ x0_1.size) = true := decide_eq_true (by omega)
      (try (have c28b7 := c28b0; simp only [hl3_1] at c28b7))
      (try (have c28b8 := c28b1; simp only [hl3_1] at c28b8))
      clear c28
      (first | rw [c28b0] | (simp only [i64_w, i32_w]; rw [c28b0]) | skip)
      have H' := Aside0.mk H
      clear H
      go_wp2
      go_meet
      case rel => exact ⟨_, (128), (by first | rfl | (simp; done) | (simp [*]; done) | exact congrArg Value.bool (nonempty_l _) | (refine congrArg (Value.int _) ?_; first | omega | (unfold Go.RowKit.wrap64; omega))), H', ⟨by have := HK1.out; first | omega | exact Nat.le_refl _⟩, ⟨by (try simp only [hl3_1]); (with_reducible repeat (first | apply Kd.R_alloc | apply Kd.R_drewN | apply Kd.R_drew)); exact HO_3.out⟩, ⟨by (try simp only [hl3_1]); (with_reducible repeat (first | apply Kd.R_alloc | apply Kd.R_drewN | apply Kd.R_drew)); exact HO161.out⟩, ⟨by repeat (first | (with_reducible first | exact HB.out | apply below_alloc | apply pw_below_drewN | apply below_drew1) | exact HB.out)⟩⟩
     ·rw [if_neg c28] at H
      have c28b0 : decide (56 ≤ (x0_1.size : Int)) = false := decide_eq_false c28
      have c28b1 : decide (56 ≤ x0_1.size) = false := decide_eq_false (by omega)
      (try (have c28b7 := c28b0; simp only [hl3_1] at c28b7))
      (try (have c28b8 := c28b1; simp only [hl3_1] at c28b8))
      clear c28
      (first | rw [c28b0] | (simp only [i64_w, i32_w]; rw [c28b0]) | skip)
      have H' := Aside0.mk H
      clear H
      go_wp2
      go_meet
      case rel => exact ⟨_, (64), (by first | rfl | (simp; done) | (simp [*]; done) | exact congrArg Value.bool (nonempty_l _) | (refine congrArg (Value.int _) ?_; first | omega | (unfold Go.RowKit.wrap64; omega))), H', ⟨by have := HK1.out; first | omega | exact Nat.le_refl _⟩, ⟨by (try simp only [hl3_1]); (with_reducible repeat (first | apply Kd.R_alloc | apply Kd.R_drewN | apply Kd.R_drew)); exact HO_3.out⟩, ⟨by (try simp only [hl3_1]); (with_reducible repeat (first | apply Kd.R_alloc | apply Kd.R_drewN | apply Kd.R_drew)); exact HO161.out⟩, ⟨by repeat (first | (with_reducible first | exact HB.out | apply below_alloc | apply pw_below_drewN | apply below_drew1) | exact HB.out)⟩⟩
    case rest =>
     clear HC22
     (try clear c1); (try clear p1); (try clear q1); (try clear hx1); (try clear qi1); (try clear hf1); (try clear c2); (try clear p2); (try clear q2); (try clear hx2); (try clear qi2); (try clear hf2); (try clear c3); (try clear c3b0); (try clear c3b1); (try clear c4); (try clear c4b0); (try clear c4b1); (try clear p5); (try clear q5); (try clear hx5); (try clear qi5); (try clear hf5); (try clear p6); (try clear c11); (try clear c11b0); (try clear c11b1); (try clear c11b7); (try clear c11b8); (try clear c12); (try clear c12b0); (try clear c12b1); (try clear c13); (try clear c13b0); (try clear c13b1); (try clear c15); (try clear c15b0); (try clear c17); (try clear c17b0); (try clear c17b1); (try clear c18); (try clear c18b0); (try clear c18b1); (try clear c18b7); (try clear c18b8); (try clear p19); (try clear q19); (try clear hx19); (try clear qi19); (try clear hf19); (try clear c20); (try clear c20b0); (try clear c20b1); (try clear p21); (try clear q21); (try clear hx21); (try clear qi21); (try clear hf21); (try clear c28); (try clear c28b0); (try clear c28b1); (try clear c28b7); (try clear c28b8); (try clear hx19_0); (try clear hx21_0); (try clear hx5_0); (try clear p19); (try clear p2); (try clear p21); (try clear p5); (try clear p6); (try clear q19); (try clear q21); (try clear q5)
     obtain ⟨kq, x6_21, rfl, HA, HJ21, HO_3, HO_5, HB⟩ := hcut
     have hl5_21 := (Kd.R_reads' HO_5.out).1
     rw [hl5_21] at HO_5
     (try simp only [hl5_21])
     (try simp only [hl5_21] at HO_3)
     cases kq with
     | zero => exact absurd HA.out (by simp [sha_Sum.j1])
     | succ kj21 =>
      have H := HA.out
      clear HA
      simp only [sha_Sum.j1] at H
      by_cases c29 : y162.length = 128
      rotate_left
      ·rw [if_neg c29] at H
       exact absurd H (by simp)
      rw [if_pos c29] at H
      have c29b0 := eq_true c29
      have c29b1 : decide (y162.length = 128) = true := decide_eq_true c29
      clear c29
      by_cases c30 : 0 ≤ (x0_1.size : Int)
      rotate_left
      ·rw [if_neg c30] at H
       exact absurd H (by simp)
      rw [if_pos c30] at H
      have c30b0 : decide (0 ≤ (x0_1.size : Int)) = true := decide_eq_true c30
      have c30b1 : decide (0 ≤ x0_1.size) = true := decide_eq_true (by omega)
      (try (have c30b7 := c30b0; simp only [hl3_1, hl5_21] at c30b7))
      (try (have c30b8 := c30b1; simp only [hl3_1, hl5_21] at c30b8))
      clear c30
      by_cases c31 : (x0_1.size : Int) < (y162.length : Int)
      rotate_left
      ·rw [if_neg c31] at H
       exact absurd H (by simp)
      rw [if_pos c31] at H
      have c31b0 : decide ((x0_1.size : Int) < (y162.length : Int)) = true := decide_eq_true c31
      have c31b1 : decide (x0_1.size < y162.length) = true := decide_eq_true (Int.ofNat_lt.mp c31)
      (try (have c31b7 := c31b0; simp only [hl3_1, hl5_21] at c31b7))
      (try (have c31b8 := c31b1; simp only [hl3_1, hl5_21] at c31b8))
      clear c31
      obtain ⟨y163, hy163⟩ : ∃ y_ : List Int, y_ = (y162.set ((x0_1.size : Int) : Int).toNat 128) := ⟨_, rfl⟩
      replace H : (sha_Sum.l1 kj21 x3_1 (IntKind.u64.wrap ((IntKind.u64.wrap ((a0.size : Int))) * 8)) y163 x6_21 0) = some r := by first | (rw [hy163]; with_reducible exact H) | (have H2_ := (Option.bind_some _ _).symm.trans H; rw [hy163]; with_reducible exact H2_) | (have H2_ := (Option.bind_some _ _).symm.trans H; with_reducible exact H2_) | with_reducible exact H | (rw [hy163]; exact H) | exact H
      have Ny163 := Aside0.mk hy163
      clear hy163
      have H' := Aside0.mk H
      clear H
      have qa32 : (((x0_1.size : Int) : Int) < (128 : Int)) = True := eq_true (by have e_ : y162.length = 128 := of_decide_eq_true (by first | (with_reducible assumption) | assumption); have h_ : ((x0_1.size : Int) : Int) < ((y162.length : Int) : Int) := of_decide_eq_true (by first | (with_reducible assumption) | assumption); omega)
      have p32 : 0 ≤ ((x0_1.size : Int) : Int) := of_decide_eq_true (by first | (with_reducible assumption) | assumption)
      have q32 : ((x0_1.size : Int) : Int) < ((y162.length : Int) : Int) := of_decide_eq_true (by first | (with_reducible assumption) | assumption)
      obtain ⟨hx32_0, hf32_0⟩ := Kd.R_celln 0 HO_5.out ((x0_1.size : Int) : Int) p32 q32
      (try simp only [Int.toNat_natCast] at hx32_0 hf32_0)
      replace p32 := eq_true p32
      replace q32 := eq_true q32
      have HP33 := Kd.R_putg HO_5.out ((x0_1.size : Int) : Int) 128
      go_wp2_with (first | ((with_reducible refine gate_store (t := 5) (p := 30) rfl ?_); refine store_event (t := 5) (p := 30) (v := ?vo_w34) (w1 := (wc.setCell ⟨go19, ((x0_1.size : Int) : Int).toNat, none⟩ (.int .u8 128))) ?hg ?ho ?hn ?hr ?_; (case ho => rfl); (case hg => rfl); (case hn => rfl); (case hr => first | (go_simp; done) | (go_simp; rfl)); intro w34 hw; have hg : wc.grownBy w34 (some go19) := (by rw [hw]; exact HP33.2); have hp_ : Kd.R (Kd.int .u8) 72 w34 w.heap.size (fun _ => True) (.slice (some ⟨go19, 0, none⟩) y162.length co19) y163 := (by rw [hw, Ny163.out]; exact HP33.1); clear HP33; have n0_ := Aside0.mk (Kd.R_over' (v := (.slice (some ⟨go19, 0, none⟩) y162.length co19)) (by (with_reducible repeat (first | apply Kd.R_alloc | apply Kd.R_drewN | apply Kd.R_drew)); exact HO_3.out) (Kd.R_typed HO_5.out) (by decide) hg); have n1_ := Aside0.mk (hp_); have n2_ := Aside0.mk ((by rw [hw]; exact below_set (HB.out) GB19.out : Below w.heap.size w w34)); clear HO_3; clear HO_5; clear HB; have HO_3 := n0_; have HO_5 := n1_; have HB := n2_; clear n0_ n1_ n2_; clear hg hw hp_))
      go_loopg [31] kj21 (fun kq v31 w' => ∃ (x5_3 : List Int) (x31_3 : Int), v31 = .int .i64 x31_3 ∧ Aside0 (sha_Sum.l1 kq x3_1 (IntKind.u64.wrap ((IntKind.u64.wrap ((a0.size : Int))) * 8)) x5_3 x6_21 x31_3 = some r) ∧ Aside0 (kq ≤ kj21) ∧ Aside0 (Kd.R (Kd.int .u32) 68 w' w.heap.size (fun _ => True) (.slice (some ⟨go5, 0, none⟩) x3_1.length co5) x3_1) ∧ Aside0 (Kd.R (Kd.int .u8) 72 w' w.heap.size (fun _ => True) (.slice (some ⟨go19, 0, none⟩) y162.length co19) x5_3) ∧ Aside0 (Below w.heap.size w w'))
      case atStart => exact ⟨(y163), (0), (by first | rfl | (simp; done) | (simp [*]; done) | exact congrArg Value.bool (nonempty_l _) | (refine congrArg (Value.int _) ?_; first | omega | (unfold Go.RowKit.wrap64; omega))), H', ⟨Nat.le_refl _⟩, ⟨by (try simp only [hl3_1]); (try simp only [hl5_21]); (with_reducible repeat (first | apply Kd.R_alloc | apply Kd.R_drewN | apply Kd.R_drew)); exact HO_3.out⟩, ⟨by (try simp only [hl3_1]); (try simp only [hl5_21]); (with_reducible repeat (first | apply Kd.R_alloc | apply Kd.R_drewN | apply Kd.R_drew)); exact HO_5.out⟩, ⟨by repeat (first | (with_reducible first | exact HB.out | apply below_alloc | apply pw_below_drewN | apply below_drew1) | exact HB.out)⟩⟩
      case round =>
       clear H'
       (try clear c1); (try clear p1); (try clear q1); (try clear hx1); (try clear qi1); (try clear hf1); (try clear c2); (try clear p2); (try clear q2); (try clear hx2); (try clear qi2); (try clear hf2); (try clear c3); (try clear c3b0); (try clear c3b1); (try clear p3); (try clear q3); (try clear hx3); (try clear hf3); (try clear c4); (try clear c4b0); (try clear c4b1); (try clear p5); (try clear q5); (try clear hx5); (try clear qi5); (try clear hf5); (try clear p6); (try clear c11); (try clear c11b0); (try clear c11b1); (try clear c11b7); (try clear c11b8); (try clear c12); (try clear c12b0); (try clear c12b1); (try clear c13); (try clear c13b0); (try clear c13b1); (try clear c15); (try clear c15b0); (try clear c17); (try clear c17b0); (try clear c17b1); (try clear c18); (try clear c18b0); (try clear c18b1); (try clear c18b7); (try clear c18b8); (try clear p19); (try clear q19); (try clear hx19); (try clear qi19); (try clear hf19); (try clear c20); (try clear c20b0); (try clear c20b1); (try clear p21); (try clear q21); (try clear hx21); (try clear qi21); (try clear hf21); (try clear c28); (try clear c28b0); (try clear c28b1); (try clear c28b7); (try clear c28b8); (try clear c29); (try clear c29b0); (try clear c29b1); (try clear c30); (try clear c30b0); (try clear c30b1); (try clear c30b7); (try clear c30b8); (try clear c31); (try clear c31b0); (try clear c31b1); (try clear c31b7); (try clear c31b8); (try clear p32); (try clear q32); (try clear hx32); (try clear hf32); (try clear hx19_0); (try clear hx21_0); (try clear hx32_0); (try clear hx5_0); (try clear p1); (try clear p19); (try clear p2); (try clear p21); (try clear p32); (try clear p5); (try clear p6); (try clear q1); (try clear q19); (try clear q2); (try clear q21); (try clear q32); (try clear q5)
       obtain ⟨x5_3, x31_3, rfl, HA, HK3, HO_3, HO_5, HB⟩ := hrel
       have hl5_3 := (Kd.R_reads' HO_5.out).1
       rw [hl5_3] at HO_5
       (try simp only [hl5_3])
       (try simp only [hl5_3] at HO_3)
       cases gk with
       | zero => exact absurd HA.out (by simp [sha_Sum.l1])
       | succ k3 =>
        have H := HA.out
        clear HA
        simp only [sha_Sum.l1] at H
        by_cases c35 : x31_3 < 8
        ·rw [if_pos c35] at H
         have c35b0 : decide (x31_3 < 8) = true := decide_eq_true c35
         (try (have c35b7 := c35b0; simp only [hl3_1, hl5_21, hl5_3] at c35b7))
         clear c35
         obtain ⟨ji36, hji36⟩ : ∃ j_ : Int, (wrap64 (8 * x31_3)) = j_ := ⟨_, rfl⟩
         replace H : (if 0 ≤ (ji36) then (if x5_3.length = 128 then (if 0 ≤ (wrap64 ((wrap64 (x6_21 - 1)) - x31_3)) then (if (wrap64 ((wrap64 (x6_21 - 1)) - x31_3)) < (x5_3.length : Int) then (sha_Sum.l1 k3 x3_1 (IntKind.u64.wrap ((IntKind.u64.wrap ((a0.size : Int))) * 8)) (x5_3.set ((wrap64 ((wrap64 (x6_21 - 1)) - x31_3)) : Int).toNat ((shr .u64 (IntKind.u64.wrap ((IntKind.u64.wrap ((a0.size : Int))) * 8)) (ji36)) % 256)) x6_21 (wrap64 (x31_3 + 1))) else (none)) else (none)) else (none)) else (none)) = some r := by first | (rw [hji36] at H; exact H) | (simp only [hji36] at H ⊢; exact H)
         have hji36w : (IntKind.i64.wrap (8 * x31_3)) = ji36 := (i64_w _).trans hji36
         by_cases c37 : 0 ≤ (ji36)
         rotate_left
         ·rw [if_neg c37] at H
          exact absurd H (by simp)
         rw [if_pos c37] at H
         have c37b0 := eq_true c37
         have c37b1 : decide (0 ≤ (ji36)) = true := decide_eq_true c37
         clear c37
         obtain ⟨ji38, hji38⟩ : ∃ j_ : Int, (shr .u64 (IntKind.u64.wrap ((IntKind.u64.wrap ((a0.size : Int))) * 8)) (ji36)) = j_ := ⟨_, rfl⟩
         replace H : (if x5_3.length = 128 then (if 0 ≤ (wrap64 ((wrap64 (x6_21 - 1)) - x31_3)) then (if (wrap64 ((wrap64 (x6_21 - 1)) - x31_3)) < (x5_3.length : Int) then (sha_Sum.l1 k3 x3_1 (IntKind.u64.wrap ((IntKind.u64.wrap ((a0.size : Int))) * 8)) (x5_3.set ((wrap64 ((wrap64 (x6_21 - 1)) - x31_3)) : Int).toNat ((ji38) % 256)) x6_21 (wrap64 (x31_3 + 1))) else (none)) else (none)) else (none)) = some r := by first | (rw [hji38] at H; exact H) | (simp only [hji38] at H ⊢; exact H)
         (try (have hji38o := hji38; simp only [u64_len (show a0.size ≤ 9223372036854775807 by omega)] at hji38o))
         have hji38_ : ((IntKind.u64.wrap ((IntKind.u64.wrap ((a0.size : Int))) * 8)) / 2 ^ min (ji36).toNat 64) = ji38 := hji38
         have hji38z : (ji36) ≤ 64 → ((IntKind.u64.wrap ((IntKind.u64.wrap ((a0.size : Int))) * 8)) / 2 ^ (ji36).toNat) = ji38 := shr_small hji38
         (try (have hji38n : (0 ≤ (ji36)) = True := eq_true (by omega)))
         by_cases c39 : x5_3.length = 128
         rotate_left
         ·rw [if_neg c39] at H
          exact absurd H (by simp)
         rw [if_pos c39] at H
         have c39b0 := eq_true c39
         have c39b1 : decide (x5_3.length = 128) = true := decide_eq_true c39
         clear c39
         obtain ⟨ji40, hji40⟩ : ∃ j_ : Int, (wrap64 ((wrap64 (x6_21 - 1)) - x31_3)) = j_ := ⟨_, rfl⟩
         replace H : (if 0 ≤ (ji40) then (if (ji40) < (x5_3.length : Int) then (sha_Sum.l1 k3 x3_1 (IntKind.u64.wrap ((IntKind.u64.wrap ((a0.size : Int))) * 8)) (x5_3.set ((ji40) : Int).toNat ((ji38) % 256)) x6_21 (wrap64 (x31_3 + 1))) else (none)) else (none)) = some r := by first | (rw [hji40] at H; exact H) | (simp only [hji40] at H ⊢; exact H)
         have hji40w : (IntKind.i64.wrap ((wrap64 (x6_21 - 1)) - x31_3)) = ji40 := (i64_w _).trans hji40
         by_cases c41 : 0 ≤ (ji40)
         rotate_left
         ·rw [if_neg c41] at H
          exact absurd H (by simp)
         rw [if_pos c41] at H
         have c41b0 : decide (0 ≤ (ji40)) = true := decide_eq_true c41
         (try (have c41b7 := c41b0; simp only [hl3_1, hl5_21, hl5_3] at c41b7))
         clear c41
         by_cases c42 : (ji40) < (x5_3.length : Int)
         rotate_left
         ·rw [if_neg c42] at H
          exact absurd H (by simp)
         rw [if_pos c42] at H
         have c42b0 : decide ((ji40) < (x5_3.length : Int)) = true := decide_eq_true c42
         (try (have c42b7 := c42b0; simp only [hl3_1, hl5_21, hl5_3] at c42b7))
         clear c42
         obtain ⟨y164, hy164⟩ : ∃ y_ : List Int, y_ = (x5_3.set ((ji40) : Int).toNat ((ji38) % 256)) := ⟨_, rfl⟩
         replace H : (sha_Sum.l1 k3 x3_1 (IntKind.u64.wrap ((IntKind.u64.wrap ((a0.size : Int))) * 8)) y164 x6_21 (wrap64 (x31_3 + 1))) = some r := by first | (rw [hy164]; with_reducible exact H) | (have H2_ := (Option.bind_some _ _).symm.trans H; rw [hy164]; with_reducible exact H2_) | (have H2_ := (Option.bind_some _ _).symm.trans H; with_reducible exact H2_) | with_reducible exact H | (rw [hy164]; exact H) | exact H
         have Ny164 := Aside0.mk hy164
         clear hy164
         have H' := Aside0.mk H
         clear H
         have qa43 : (((ji40) : Int) < (128 : Int)) = True := eq_true (by have e_ : x5_3.length = 128 := of_decide_eq_true (by first | (with_reducible assumption) | assumption); have h_ : ((ji40) : Int) < ((x5_3.length : Int) : Int) := of_decide_eq_true (by first | (with_reducible assumption) | assumption); omega)
         have p43 : 0 ≤ ((ji40) : Int) := of_decide_eq_true (by first | (with_reducible assumption) | assumption)
         have q43 : ((ji40) : Int) < ((x5_3.length : Int) : Int) := of_decide_eq_true (by first | (with_reducible assumption) | assumption)
         obtain ⟨hx43_0, hf43_0⟩ := Kd.R_celln 0 HO_5.out ((ji40) : Int) p43 q43
         replace p43 := eq_true p43
         replace q43 := eq_true q43
         have HP44 := Kd.R_putg HO_5.out ((ji40) : Int) ((ji38) % 256)
         go_wp2_with (first | ((with_reducible refine gate_store (t := 5) (p := 43) rfl ?_); refine store_event (t := 5) (p := 43) (v := ?vo_w45) (w1 := (wr.setCell ⟨go19, ((ji40) : Int).toNat, none⟩ (.int .u8 ((ji38) % 256)))) ?hg ?ho ?hn ?hr ?_; (case ho => rfl); (case hg => rfl); (case hn => rfl); (case hr => first | (go_simp; done) | (go_simp; rfl)); intro w45 hw; have hg : wr.grownBy w45 (some go19) := (by rw [hw]; exact HP44.2); have hp_ : Kd.R (Kd.int .u8) 72 w45 w.heap.size (fun _ => True) (.slice (some ⟨go19, 0, none⟩) x5_3.length co19) y164 := (by rw [hw, Ny164.out]; exact HP44.1); clear HP44; have n0_ := Aside0.mk (Kd.R_over' (v := (.slice (some ⟨go19, 0, none⟩) x5_3.length co19)) (by (with_reducible repeat (first | apply Kd.R_alloc | apply Kd.R_drewN | apply Kd.R_drew)); exact HO_3.out) (Kd.R_typed HO_5.out) (by decide) hg); have n1_ := Aside0.mk (hp_); have n2_ := Aside0.mk ((by rw [hw]; exact below_set (HB.out) GB19.out : Below w.heap.size w w45)); clear HO_3; clear HO_5; clear HB; have HO_3 := n0_; have HO_5 := n1_; have HB := n2_; clear n0_ n1_ n2_; clear hg hw hp_))
         (try simp only [← hl5_3])
         go_roundg k3
         case measure => have := HK1.out; have := HJ21.out; have := HK3.out; omega
         case rel => exact ⟨(y164), (wrap64 (x31_3 + 1)), (by first | rfl | (simp; done) | (simp [*]; done) | exact congrArg Value.bool (nonempty_l _) | (refine congrArg (Value.int _) ?_; first | omega | (unfold Go.RowKit.wrap64; omega))), H', ⟨by have := HK1.out; have := HJ21.out; have := HK3.out; omega⟩, ⟨by (try simp only [hl3_1]); (try simp only [hl5_21]); (try simp only [hl5_3]); (with_reducible repeat (first | apply Kd.R_alloc | apply Kd.R_drewN | apply Kd.R_drew)); exact HO_3.out⟩, ⟨by (try simp only [hl3_1]); (try simp only [hl5_21]); (try simp only [hl5_3]); (with_reducible repeat (first | apply Kd.R_alloc | apply Kd.R_drewN | apply Kd.R_drew)); exact HO_5.out⟩, ⟨by repeat (first | (with_reducible first | exact HB.out | apply below_alloc | apply pw_below_drewN | apply below_drew1) | exact HB.out)⟩⟩
        ·rw [if_neg c35] at H
         have c35b0 : decide (x31_3 < 8) = false := decide_eq_false c35
         (try (have c35b7 := c35b0; simp only [hl3_1, hl5_21, hl5_3] at c35b7))
         clear c35
         by_cases c46 : x5_3.length = 128
         rotate_left
         ·rw [if_neg c46] at H
          exact absurd H (by simp)
         rw [if_pos c46] at H
         have c46b0 := eq_true c46
         have c46b1 : decide (x5_3.length = 128) = true := decide_eq_true c46
         clear c46
         by_cases c47 : 0 ≤ x6_21
         rotate_left
         ·rw [if_neg c47] at H
          exact absurd H (by simp)
         rw [if_pos c47] at H
         have c47b0 := eq_true c47
         have c47b1 : decide (0 ≤ x6_21) = true := decide_eq_true c47
         clear c47
         by_cases c48 : x6_21 ≤ 128
         rotate_left
         ·rw [if_neg c48] at H
          exact absurd H (by simp)
         rw [if_pos c48] at H
         have c48b0 := eq_true c48
         have c48b1 : decide (x6_21 ≤ 128) = true := decide_eq_true c48
         clear c48
         by_cases c49 : 0 < (x5_3.length : Int)
         rotate_left
         ·rw [if_neg c49] at H
          exact absurd H (by simp)
         rw [if_pos c49] at H
         have c49b0 : decide (0 < (x5_3.length : Int)) = true := decide_eq_true c49
         have c49b1 : decide (0 < x5_3.length) = true := decide_eq_true (by omega)
         (try (have c49b7 := c49b0; simp only [hl3_1, hl5_21, hl5_3] at c49b7))
         (try (have c49b8 := c49b1; simp only [hl3_1, hl5_21, hl5_3] at c49b8))
         clear c49
         have H' := Aside0.mk H
         clear H
         have qa50 : ((0 : Int) < (128 : Int)) = True := eq_true (by have e_ : x5_3.length = 128 := of_decide_eq_true (by first | (with_reducible assumption) | assumption); have h_ : (0 : Int) < ((x5_3.length : Int) : Int) := of_decide_eq_true (by first | (with_reducible assumption) | assumption); omega)
         have p50 : 0 ≤ (0 : Int) := (by omega)
         have q50 : (0 : Int) < ((x5_3.length : Int) : Int) := of_decide_eq_true (by first | (with_reducible assumption) | assumption)
         have qi50 : (0 < x5_3.length) = True := eq_true (by omega)
         obtain ⟨hx50_0, hf50_0⟩ := Kd.R_celln 0 HO_5.out (0 : Int) p50 q50
         (try rw [show ((0 : Int)).toNat = 0 from rfl] at hx50_0)
         (try simp only [Nat.reduceMul, Nat.zero_mul, Nat.zero_add, Nat.reduceAdd] at hx50_0)
         (try rw [show ((0 : Int)).toNat = 0 from rfl] at hf50_0)
         (try simp only [Nat.reduceMul, Nat.zero_mul, Nat.zero_add, Nat.reduceAdd] at hf50_0)
         replace p50 := eq_true p50
         replace q50 := eq_true q50
         have p51 : 0 ≤ (x6_21 : Int) := of_decide_eq_true (by first | (with_reducible assumption) | assumption)
         have q51 : (x6_21 : Int) ≤ (128 : Int) := of_decide_eq_true (by first | (with_reducible assumption) | assumption)
         go_wp2_with (first | ((with_reducible refine gate_dst (N := 46) rfl ?_); refine aslice_to_event (P := Tryd.prog) rfl (N := 46) rfl 72 5 128 _ _ _ rfl rfl (x6_21 : Int) rfl p51 q51 Tryd.underlying72 (by go_simp) ?_; have hm52 : (x6_21 : Int).toNat ≤ x5_3.length := (by have e_ : x5_3.length = 128 := of_decide_eq_true (by first | (with_reducible assumption) | assumption); have e2_ := (Kd.R_reads' HO_5.out).1; first | omega | (have e3_ : (x6_21 : Int) ≤ 128 := of_decide_eq_true (by first | (with_reducible assumption) | assumption); omega))) | ((with_reducible refine gate_dst (N := 47) rfl ?_); refine astr_event (P := Tryd.prog) rfl (N := 47) rfl 53 9 5 _ rfl rfl Tryd.underlying53 Tryd.underlying5 Tryd.underlying9 HO_5.out hm52 ?_))
         go_loopg [8] k3 (fun kq v8 w' => ∃ (x3_4 : List Int) (x8_4 : ByteArray), v8 = .string x8_4 ∧ Aside0 (sha_Sum.l2 kq x3_4 x8_4 = some r) ∧ Aside0 (kq ≤ k3) ∧ Aside0 (Kd.R (Kd.int .u32) 68 w' w.heap.size (fun _ => True) (.slice (some ⟨go5, 0, none⟩) x3_1.length co5) x3_4) ∧ Aside0 (Below w.heap.size w w'))
         case atStart => exact ⟨(x3_1), (strOfNums (x5_3.take (x6_21 : Int).toNat)), (by first | rfl | (simp; done) | (simp [*]; done) | exact congrArg Value.bool (nonempty_l _) | (refine congrArg (Value.int _) ?_; first | omega | (unfold Go.RowKit.wrap64; omega))), H', ⟨Nat.le_refl _⟩, ⟨by (try simp only [hl3_1]); (try simp only [hl5_21]); (try simp only [hl5_3]); (with_reducible repeat (first | apply Kd.R_alloc | apply Kd.R_drewN | apply Kd.R_drew)); exact HO_3.out⟩, ⟨by repeat (first | (with_reducible first | exact HB.out | apply below_alloc | apply pw_below_drewN | apply below_drew1) | exact HB.out)⟩⟩
         case round =>
          clear H'
          (try clear c1); (try clear p1); (try clear q1); (try clear hx1); (try clear qi1); (try clear hf1); (try clear c2); (try clear p2); (try clear q2); (try clear hx2); (try clear qi2); (try clear hf2); (try clear c3); (try clear c3b0); (try clear c3b1); (try clear p3); (try clear q3); (try clear hx3); (try clear hf3); (try clear c4); (try clear c4b0); (try clear c4b1); (try clear p4); (try clear q4); (try clear hx4); (try clear hf4); (try clear p5); (try clear q5); (try clear hx5); (try clear qi5); (try clear hf5); (try clear p6); (try clear c11); (try clear c11b0); (try clear c11b1); (try clear c11b7); (try clear c11b8); (try clear c12); (try clear c12b0); (try clear c12b1); (try clear c13); (try clear c13b0); (try clear c13b1); (try clear c15); (try clear c15b0); (try clear c17); (try clear c17b0); (try clear c17b1); (try clear c18); (try clear c18b0); (try clear c18b1); (try clear c18b7); (try clear c18b8); (try clear p19); (try clear q19); (try clear hx19); (try clear qi19); (try clear hf19); (try clear c20); (try clear c20b0); (try clear c20b1); (try clear p21); (try clear q21); (try clear hx21); (try clear qi21); (try clear hf21); (try clear c28); (try clear c28b0); (try clear c28b1); (try clear c28b7); (try clear c28b8); (try clear c29); (try clear c29b0); (try clear c29b1); (try clear c30); (try clear c30b0); (try clear c30b1); (try clear c30b7); (try clear c30b8); (try clear c31); (try clear c31b0); (try clear c31b1); (try clear c31b7); (try clear c31b8); (try clear p32); (try clear q32); (try clear hx32); (try clear hf32); (try clear c35); (try clear c35b0); (try clear c35b7); (try clear c37); (try clear c37b0); (try clear c37b1); (try clear c39); (try clear c39b0); (try clear c39b1); (try clear c41); (try clear c41b0); (try clear c41b7); (try clear c42); (try clear c42b0); (try clear c42b7); (try clear p43); (try clear q43); (try clear hx43); (try clear hf43); (try clear c46); (try clear c46b0); (try clear c46b1); (try clear c47); (try clear c47b0); (try clear c47b1); (try clear c48); (try clear c48b0); (try clear c48b1); (try clear c49); (try clear c49b0); (try clear c49b1); (try clear c49b7); (try clear c49b8); (try clear p50); (try clear q50); (try clear hx50); (try clear qi50); (try clear hf50); (try clear p51); (try clear q51); (try clear hx19_0); (try clear hx21_0); (try clear hx32_0); (try clear hx43_0); (try clear hx50_0); (try clear hx5_0); (try clear p1); (try clear p19); (try clear p2); (try clear p21); (try clear p3); (try clear p32); (try clear p43); (try clear p5); (try clear p50); (try clear p51); (try clear p6); (try clear q1); (try clear q19); (try clear q2); (try clear q21); (try clear q3); (try clear q32); (try clear q43); (try clear q5); (try clear q50); (try clear q51)
          obtain ⟨x3_4, x8_4, rfl, HA, HK4, HO_3, HB⟩ := hrel
          have hl3_4 := (Kd.R_reads' HO_3.out).1
          rw [hl3_4] at HO_3
          (try simp only [hl3_4])
          cases gk with
          | zero => exact absurd HA.out (by simp [sha_Sum.l2])
          | succ k4 =>
           have H := HA.out
           clear HA
           simp only [sha_Sum.l2] at H
           by_cases c53 : x8_4.toList = ([] : List UInt8)
           ·rw [if_pos c53] at H
            have c53b0 : (x8_4.toList == ([] : List UInt8)) = true := beq_iff_eq.mpr c53
            have c53b1 : (x8_4.toList != ([] : List UInt8)) = false := bne_eq_false_iff_eq.mpr c53
            (try (have c53b7 := c53b0; simp only [hl3_1, hl5_21, hl5_3, hl3_4] at c53b7))
            (try (have c53b8 := c53b1; simp only [hl3_1, hl5_21, hl5_3, hl3_4] at c53b8))
            clear c53
            obtain ⟨y166, hy166⟩ : ∃ y_ : List Int, y_ = (List.replicate 32 0) := ⟨_, rfl⟩
            replace H : (sha_Sum.l3 k4 x3_4 y166 0) = some r := by first | (rw [hy166]; with_reducible exact H) | (have H2_ := (Option.bind_some _ _).symm.trans H; rw [hy166]; with_reducible exact H2_) | (have H2_ := (Option.bind_some _ _).symm.trans H; with_reducible exact H2_) | with_reducible exact H | (rw [hy166]; exact H) | exact H
            have Ny166 := Aside0.mk hy166
            clear hy166
            have H' := Aside0.mk H
            clear H
            go_wp2_with (first | ((with_reducible refine gate_dst (N := 9) rfl ?_); refine R_arr (Value.int .u8) (fun _ => rfl) _ 73 ?hg (N := 9) ?hd (List.replicate 32 0) ?hr (Below.refl _ _) (Nat.le_refl _) (by decide) ?_; (case hd => rfl); (case hg => rfl); (case hr => first | (go_simp; done) | (go_simp; rfl)); intro v167 w54 ho55 hb hg_ hnew_; clear hg_ hnew_; (first | rw [← Ny166.out] at ho55 | (simp only [Int.reduceToNat] at ho55; rw [← Ny166.out] at ho55)); have n0_ := Aside0.mk (Kd.R_below (by (with_reducible repeat (first | apply Kd.R_alloc | apply Kd.R_drewN | apply Kd.R_drew)); exact HO_3.out) hb); have n1_ := Aside0.mk (Kd.R_lower ho55 (below_size (by repeat (first | (with_reducible first | exact HB.out | apply below_alloc | apply pw_below_drewN | apply below_drew1) | exact HB.out)))); have n2_ := Aside0.mk (below_step (by repeat (first | (with_reducible first | exact HB.out | apply below_alloc | apply pw_below_drewN | apply below_drew1) | exact HB.out)) hb); clear HO_3; clear HB; have HO_3 := n0_; have HO168 := n1_; have HB := n2_; clear n0_ n1_ n2_; clear hb ho55))
            go_loopg [55] k4 (fun kq v55 w' => ∃ (x9_5 : List Int) (x55_5 : Int), v55 = .int .i64 x55_5 ∧ Aside0 (sha_Sum.l3 kq x3_4 x9_5 x55_5 = some r) ∧ Aside0 (kq ≤ k4) ∧ Aside0 (Kd.R (Kd.int .u32) 68 w' w.heap.size (fun _ => True) (.slice (some ⟨go5, 0, none⟩) x3_4.length co5) x3_4) ∧ Aside0 (Kd.R (Kd.int .u8) 73 w' w.heap.size (fun _ => True) v167 x9_5) ∧ Aside0 (Below w.heap.size w w'))
            case atStart => exact ⟨(y166), (0), (by first | rfl | (simp; done) | (simp [*]; done) | exact congrArg Value.bool (nonempty_l _) | (refine congrArg (Value.int _) ?_; first | omega | (unfold Go.RowKit.wrap64; omega))), H', ⟨Nat.le_refl _⟩, ⟨by (try simp only [hl3_1]); (try simp only [hl5_21]); (try simp only [hl5_3]); (try simp only [hl3_4]); (with_reducible repeat (first | apply Kd.R_alloc | apply Kd.R_drewN | apply Kd.R_drew)); exact HO_3.out⟩, ⟨by (try simp only [hl3_1]); (try simp only [hl5_21]); (try simp only [hl5_3]); (try simp only [hl3_4]); (with_reducible repeat (first | apply Kd.R_alloc | apply Kd.R_drewN | apply Kd.R_drew)); exact HO168.out⟩, ⟨by repeat (first | (with_reducible first | exact HB.out | apply below_alloc | apply pw_below_drewN | apply below_drew1) | exact HB.out)⟩⟩
            case round =>
             clear H'
             (try clear c1); (try clear p1); (try clear q1); (try clear hx1); (try clear qi1); (try clear hf1); (try clear c2); (try clear p2); (try clear q2); (try clear hx2); (try clear qi2); (try clear hf2); (try clear c3); (try clear c3b0); (try clear c3b1); (try clear p3); (try clear q3); (try clear hx3); (try clear hf3); (try clear c4); (try clear c4b0); (try clear c4b1); (try clear p4); (try clear q4); (try clear hx4); (try clear hf4); (try clear c5); (try clear p5); (try clear q5); (try clear hx5); (try clear qi5); (try clear hf5); (try clear p6); (try clear c11); (try clear c11b0); (try clear c11b1); (try clear c11b7); (try clear c11b8); (try clear c12); (try clear c12b0); (try clear c12b1); (try clear c13); (try clear c13b0); (try clear c13b1); (try clear c15); (try clear c15b0); (try clear c17); (try clear c17b0); (try clear c17b1); (try clear c18); (try clear c18b0); (try clear c18b1); (try clear c18b7); (try clear c18b8); (try clear p19); (try clear q19); (try clear hx19); (try clear qi19); (try clear hf19); (try clear c20); (try clear c20b0); (try clear c20b1); (try clear p21); (try clear q21); (try clear hx21); (try clear qi21); (try clear hf21); (try clear c28); (try clear c28b0); (try clear c28b1); (try clear c28b7); (try clear c28b8); (try clear c29); (try clear c29b0); (try clear c29b1); (try clear c30); (try clear c30b0); (try clear c30b1); (try clear c30b7); (try clear c30b8); (try clear c31); (try clear c31b0); (try clear c31b1); (try clear c31b7); (try clear c31b8); (try clear p32); (try clear q32); (try clear hx32); (try clear hf32); (try clear c35); (try clear c35b0); (try clear c35b7); (try clear c37); (try clear c37b0); (try clear c37b1); (try clear c39); (try clear c39b0); (try clear c39b1); (try clear c41); (try clear c41b0); (try clear c41b7); (try clear c42); (try clear c42b0); (try clear c42b7); (try clear p43); (try clear q43); (try clear hx43); (try clear hf43); (try clear c46); (try clear c46b0); (try clear c46b1); (try clear c47); (try clear c47b0); (try clear c47b1); (try clear c48); (try clear c48b0); (try clear c48b1); (try clear c49); (try clear c49b0); (try clear c49b1); (try clear c49b7); (try clear c49b8); (try clear p50); (try clear q50); (try clear hx50); (try clear qi50); (try clear hf50); (try clear p51); (try clear q51); (try clear c53); (try clear c53b0); (try clear c53b1); (try clear c53b7); (try clear c53b8); (try clear hx19_0); (try clear hx21_0); (try clear hx32_0); (try clear hx43_0); (try clear hx50_0); (try clear hx5_0); (try clear p1); (try clear p19); (try clear p2); (try clear p21); (try clear p3); (try clear p32); (try clear p4); (try clear p43); (try clear p5); (try clear p50); (try clear p51); (try clear p6); (try clear q1); (try clear q19); (try clear q2); (try clear q21); (try clear q3); (try clear q32); (try clear q4); (try clear q43); (try clear q5); (try clear q50); (try clear q51)
             obtain ⟨x9_5, x55_5, rfl, HA, HK5, HO_3, HO_9, HB⟩ := hrel
             cases gk with
             | zero => exact absurd HA.out (by simp [sha_Sum.l3])
             | succ k5 =>
              have H := HA.out
              clear HA
              simp only [sha_Sum.l3] at H
              by_cases c56 : x55_5 < 32
              ·rw [if_pos c56] at H
               have c56b0 : decide (x55_5 < 32) = true := decide_eq_true c56
               (try (have c56b7 := c56b0; simp only [hl3_1, hl5_21, hl5_3, hl3_4] at c56b7))
               clear c56
               by_cases c57 : x3_4.length = 8
               rotate_left
               ·rw [if_neg c57] at H
                exact absurd H (by simp)
               rw [if_pos c57] at H
               have c57b0 := eq_true c57
               have c57b1 : decide (x3_4.length = 8) = true := decide_eq_true c57
               clear c57
               obtain ⟨ji58, hji58⟩ : ∃ j_ : Int, (wrap64 (Int.tdiv x55_5 4)) = j_ := ⟨_, rfl⟩
               replace H : (if 0 ≤ (ji58) then (if (ji58) < (x3_4.length : Int) then (if 0 ≤ (wrap64 (24 - (wrap64 (8 * (Int.tmod x55_5 4))))) then (if x9_5.length = 32 then (if 0 ≤ x55_5 then (if x55_5 < (x9_5.length : Int) then (sha_Sum.l3 k5 x3_4 (x9_5.set (x55_5 : Int).toNat ((shr .u32 (rd x3_4 (ji58)) (wrap64 (24 - (wrap64 (8 * (Int.tmod x55_5 4)))))) % 256)) (wrap64 (x55_5 + 1))) else (none)) else (none)) else (none)) else (none)) else (none)) else (none)) = some r := by first | (rw [hji58] at H; exact H) | (simp only [hji58] at H ⊢; exact H)
               have hji58w : (IntKind.i64.wrap (Int.tdiv x55_5 4)) = ji58 := (i64_w _).trans hji58
               by_cases c59 : 0 ≤ (ji58)
               rotate_left
               ·rw [if_neg c59] at H
                exact absurd H (by simp)
               rw [if_pos c59] at H
               have c59b0 : decide (0 ≤ (ji58)) = true := decide_eq_true c59
               (try (have c59b7 := c59b0; simp only [hl3_1, hl5_21, hl5_3, hl3_4] at c59b7))
               clear c59
               by_cases c60 : (ji58) < (x3_4.length : Int)
               rotate_left
               ·rw [if_neg c60] at H
                exact absurd H (by simp)
               rw [if_pos c60] at H
               have c60b0 : decide ((ji58) < (x3_4.length : Int)) = true := decide_eq_true c60
               (try (have c60b7 := c60b0; simp only [hl3_1, hl5_21, hl5_3, hl3_4] at c60b7))
               clear c60
               obtain ⟨ji61, hji61⟩ : ∃ j_ : Int, (wrap64 (24 - (wrap64 (8 * (Int.tmod x55_5 4))))) = j_ := ⟨_, rfl⟩
               replace H : (if 0 ≤ (ji61) then (if x9_5.length = 32 then (if 0 ≤ x55_5 then (if x55_5 < (x9_5.length : Int) then (sha_Sum.l3 k5 x3_4 (x9_5.set (x55_5 : Int).toNat ((shr .u32 (rd x3_4 (ji58)) (ji61)) % 256)) (wrap64 (x55_5 + 1))) else (none)) else (none)) else (none)) else (none)) = some r := by first | (rw [hji61] at H; exact H) | (simp only [hji61] at H ⊢; exact H)
               have hji61w : (IntKind.i64.wrap (24 - (wrap64 (8 * (Int.tmod x55_5 4))))) = ji61 := (i64_w _).trans hji61
               by_cases c62 : 0 ≤ (ji61)
               rotate_left
               ·rw [if_neg c62] at H
                exact absurd H (by simp)
               rw [if_pos c62] at H
               have c62b0 := eq_true c62
               have c62b1 : decide (0 ≤ (ji61)) = true := decide_eq_true c62
               clear c62
               obtain ⟨ji63, hji63⟩ : ∃ j_ : Int, (shr .u32 (rd x3_4 (ji58)) (ji61)) = j_ := ⟨_, rfl⟩
               replace H : (if x9_5.length = 32 then (if 0 ≤ x55_5 then (if x55_5 < (x9_5.length : Int) then (sha_Sum.l3 k5 x3_4 (x9_5.set (x55_5 : Int).toNat ((ji63) % 256)) (wrap64 (x55_5 + 1))) else (none)) else (none)) else (none)) = some r := by first | (rw [hji63] at H; exact H) | (simp only [hji63] at H ⊢; exact H)
               have hji63_ : ((rd x3_4 (ji58)) / 2 ^ min (ji61).toNat 32) = ji63 := hji63
               have hji63z : (ji61) ≤ 32 → ((rd x3_4 (ji58)) / 2 ^ (ji61).toNat) = ji63 := shr_small hji63
               (try (have hji63n : (0 ≤ (ji61)) = True := eq_true (by omega)))
               by_cases c64 : x9_5.length = 32
               rotate_left
               ·rw [if_neg c64] at H
                exact absurd H (by simp)
               rw [if_pos c64] at H
               have c64b0 := eq_true c64
               have c64b1 : decide (x9_5.length = 32) = true := decide_eq_true c64
               clear c64
               by_cases c65 : 0 ≤ x55_5
               rotate_left
               ·rw [if_neg c65] at H
                exact absurd H (by simp)
               rw [if_pos c65] at H
               have c65b0 : decide (0 ≤ x55_5) = true := decide_eq_true c65
               (try (have c65b7 := c65b0; simp only [hl3_1, hl5_21, hl5_3, hl3_4] at c65b7))
               clear c65
               by_cases c66 : x55_5 < (x9_5.length : Int)
               rotate_left
               ·rw [if_neg c66] at H
                exact absurd H (by simp)
               rw [if_pos c66] at H
               have c66b0 : decide (x55_5 < (x9_5.length : Int)) = true := decide_eq_true c66
               (try (have c66b7 := c66b0; simp only [hl3_1, hl5_21, hl5_3, hl3_4] at c66b7))
               clear c66
               obtain ⟨y170, hy170⟩ : ∃ y_ : List Int, y_ = (x9_5.set (x55_5 : Int).toNat ((ji63) % 256)) := ⟨_, rfl⟩
               replace H : (sha_Sum.l3 k5 x3_4 y170 (wrap64 (x55_5 + 1))) = some r := by first | (rw [hy170]; with_reducible exact H) | (have H2_ := (Option.bind_some _ _).symm.trans H; rw [hy170]; with_reducible exact H2_) | (have H2_ := (Option.bind_some _ _).symm.trans H; with_reducible exact H2_) | with_reducible exact H | (rw [hy170]; exact H) | exact H
               have Ny170 := Aside0.mk hy170
               clear hy170
               have H' := Aside0.mk H
               clear H
               have qa169 : (((ji58) : Int) < (8 : Int)) = True := eq_true (by have e_ : x3_4.length = 8 := of_decide_eq_true (by first | (with_reducible assumption) | assumption); have h_ : ((ji58) : Int) < ((x3_4.length : Int) : Int) := of_decide_eq_true (by first | (with_reducible assumption) | assumption); omega)
               have p169 : 0 ≤ ((ji58) : Int) := of_decide_eq_true (by first | (with_reducible assumption) | assumption)
               have q169 : (ji58) < (x3_4.length : Int) := of_decide_eq_true (by first | (with_reducible assumption) | assumption)
               obtain ⟨ad169, e169, hx169_0⟩ := Kd.at_int (Kd.R_reads' HO_3.out).2.2 (ji58) p169 q169
               obtain rfl : (⟨go5, 0, none⟩ : Addr) = ad169 := (by injection e169)
               (first | simp only [add_plain] at hx169_0 | simp only [add_at] at hx169_0 | simp only [Addr.add, Nat.zero_add] at hx169_0 | skip)
               replace p169 := eq_true p169
               replace q169 := eq_true q169
               have qa67 : ((x55_5 : Int) < (32 : Int)) = True := eq_true (by have e_ : x9_5.length = 32 := of_decide_eq_true (by first | (with_reducible assumption) | assumption); have h_ : (x55_5 : Int) < ((x9_5.length : Int) : Int) := of_decide_eq_true (by first | (with_reducible assumption) | assumption); omega)
               have p67 : 0 ≤ (x55_5 : Int) := of_decide_eq_true (by first | (with_reducible assumption) | assumption)
               have q67 : (x55_5 : Int) < ((x9_5.length : Int) : Int) := of_decide_eq_true (by first | (with_reducible assumption) | assumption)
               obtain ⟨go67, co67, eo67, gb67, gl67, cl67, HG67⟩ := Kd.R_form HO_9.out (by omega)
               (first | cases eo67 | (injection eo67 with ea_ en_ ec_; (first | subst ea_ | (injection ea_ with ea_; subst ea_)); subst ec_; clear en_))
               have GB67 := Aside0.mk gb67
               have GG67 := Aside0.mk HG67
               clear gb67 gl67 HG67
               obtain ⟨hx67_0, hf67_0⟩ := Kd.R_celln 0 HO_9.out (x55_5 : Int) p67 q67
               replace p67 := eq_true p67
               replace q67 := eq_true q67
               have HP68 := Kd.R_putg HO_9.out (x55_5 : Int) ((ji63) % 256)
               go_wp2_with (first | ((with_reducible refine gate_store (t := 5) (p := 69) rfl ?_); refine store_event (t := 5) (p := 69) (v := ?vo_w69) (w1 := (wr.setCell ⟨go67, (x55_5 : Int).toNat, none⟩ (.int .u8 ((ji63) % 256)))) ?hg ?ho ?hn ?hr ?_; (case ho => rfl); (case hg => rfl); (case hn => rfl); (case hr => first | (go_simp; done) | (go_simp; rfl)); intro w69 hw; have hg : wr.grownBy w69 (some go67) := (by rw [hw]; exact HP68.2); have hp_ : Kd.R (Kd.int .u8) 73 w69 w.heap.size (fun _ => True) (.slice (some ⟨go67, 0, none⟩) x9_5.length co67) y170 := (by rw [hw, Ny170.out]; exact HP68.1); clear HP68; have n0_ := Aside0.mk (Kd.R_over' (v := (.slice (some ⟨go67, 0, none⟩) x9_5.length co67)) (by (with_reducible repeat (first | apply Kd.R_alloc | apply Kd.R_drewN | apply Kd.R_drew)); exact HO_3.out) (Kd.R_typed HO_9.out) (by decide) hg); have n1_ := Aside0.mk (hp_); have n2_ := Aside0.mk ((by rw [hw]; exact below_set (HB.out) GB67.out : Below w.heap.size w w69)); clear HO_3; clear HO_9; clear HB; have HO_3 := n0_; have HO_9 := n1_; have HB := n2_; clear n0_ n1_ n2_; clear hg hw hp_))
               go_roundg k5
               case measure => have := HK1.out; have := HJ21.out; have := HK3.out; have := HK4.out; have := HK5.out; omega
               case rel => exact ⟨(y170), (wrap64 (x55_5 + 1)), (by first | rfl | (simp; done) | (simp [*]; done) | exact congrArg Value.bool (nonempty_l _) | (refine congrArg (Value.int _) ?_; first | omega | (unfold Go.RowKit.wrap64; omega))), H', ⟨by have := HK1.out; have := HJ21.out; have := HK3.out; have := HK4.out; have := HK5.out; omega⟩, ⟨by (try simp only [hl3_1]); (try simp only [hl5_21]); (try simp only [hl5_3]); (try simp only [hl3_4]); (with_reducible repeat (first | apply Kd.R_alloc | apply Kd.R_drewN | apply Kd.R_drew)); exact HO_3.out⟩, ⟨by (try simp only [hl3_1]); (try simp only [hl5_21]); (try simp only [hl5_3]); (try simp only [hl3_4]); (with_reducible repeat (first | apply Kd.R_alloc | apply Kd.R_drewN | apply Kd.R_drew)); exact HO_9.out⟩, ⟨by repeat (first | (with_reducible first | exact HB.out | apply below_alloc | apply pw_below_drewN | apply below_drew1) | exact HB.out)⟩⟩
              ·rw [if_neg c56] at H
               have c56b0 : decide (x55_5 < 32) = false := decide_eq_false c56
               (try (have c56b7 := c56b0; simp only [hl3_1, hl5_21, hl5_3, hl3_4] at c56b7))
               clear c56
               by_cases c70 : x9_5.length = 32
               rotate_left
               ·rw [if_neg c70] at H
                exact absurd H (by simp)
               rw [if_pos c70] at H
               have c70b0 := eq_true c70
               have c70b1 : decide (x9_5.length = 32) = true := decide_eq_true c70
               clear c70
               by_cases c71 : 0 < (x9_5.length : Int)
               rotate_left
               ·rw [if_neg c71] at H
                exact absurd H (by simp)
               rw [if_pos c71] at H
               have c71b0 : decide (0 < (x9_5.length : Int)) = true := decide_eq_true c71
               have c71b1 : decide (0 < x9_5.length) = true := decide_eq_true (by omega)
               (try (have c71b7 := c71b0; simp only [hl3_1, hl5_21, hl5_3, hl3_4] at c71b7))
               (try (have c71b8 := c71b1; simp only [hl3_1, hl5_21, hl5_3, hl3_4] at c71b8))
               clear c71
               obtain rfl := Option.some.inj H
               have qa72 : ((0 : Int) < (32 : Int)) = True := eq_true (by have e_ : x9_5.length = 32 := of_decide_eq_true (by first | (with_reducible assumption) | assumption); have h_ : (0 : Int) < ((x9_5.length : Int) : Int) := of_decide_eq_true (by first | (with_reducible assumption) | assumption); omega)
               have p72 : 0 ≤ (0 : Int) := (by omega)
               have q72 : (0 : Int) < ((x9_5.length : Int) : Int) := of_decide_eq_true (by first | (with_reducible assumption) | assumption)
               have qi72 : (0 < x9_5.length) = True := eq_true (by omega)
               obtain ⟨go72, co72, eo72, gb72, gl72, cl72, HG72⟩ := Kd.R_form HO_9.out (by omega)
               (first | cases eo72 | (injection eo72 with ea_ en_ ec_; (first | subst ea_ | (injection ea_ with ea_; subst ea_)); subst ec_; clear en_))
               have GB72 := Aside0.mk gb72
               have GG72 := Aside0.mk HG72
               clear gb72 gl72 HG72
               obtain ⟨hx72_0, hf72_0⟩ := Kd.R_celln 0 HO_9.out (0 : Int) p72 q72
               (try rw [show ((0 : Int)).toNat = 0 from rfl] at hx72_0)
               (try simp only [Nat.reduceMul, Nat.zero_mul, Nat.zero_add, Nat.reduceAdd] at hx72_0)
               (try rw [show ((0 : Int)).toNat = 0 from rfl] at hf72_0)
               (try simp only [Nat.reduceMul, Nat.zero_mul, Nat.zero_add, Nat.reduceAdd] at hf72_0)
               replace p72 := eq_true p72
               replace q72 := eq_true q72
               go_wp2_with (first | ((with_reducible refine gate_dst (N := 71) rfl ?_); refine aslice_event (P := Tryd.prog) rfl (N := 71) rfl 73 5 32 _ _ rfl rfl Tryd.underlying73 (by go_simp) ?_; have hm74 : 32 ≤ x9_5.length := (by have e_ : x9_5.length = 32 := of_decide_eq_true (by first | (with_reducible assumption) | assumption); have e2_ := (Kd.R_reads' HO_9.out).1; first | omega | (have e3_ : (32 : Int) ≤ 32 := of_decide_eq_true (by first | (with_reducible assumption) | assumption); omega))) | ((with_reducible refine gate_dst (N := 72) rfl ?_); refine astr_event (P := Tryd.prog) rfl (N := 72) rfl 53 9 5 _ rfl rfl Tryd.underlying53 Tryd.underlying5 Tryd.underlying9 HO_9.out hm74 ?_))
               go_ret
               exact ⟨by first | rfl | (simp [errW_none, errW_some] <;> rfl) | (simp [*, errW_none, errW_some] <;> rfl), by repeat (first | (with_reducible first | exact HB.out | apply below_alloc | apply pw_below_drewN | apply below_drew1) | exact HB.out)⟩
           ·rw [if_neg c53] at H
            have c53b0 : (x8_4.toList == ([] : List UInt8)) = false := beq_eq_false_iff_ne.mpr c53
            have c53b1 : (x8_4.toList != ([] : List UInt8)) = true := bne_iff_ne.mpr c53
            (try (have c53b7 := c53b0; simp only [hl3_1, hl5_21, hl5_3, hl3_4] at c53b7))
            (try (have c53b8 := c53b1; simp only [hl3_1, hl5_21, hl5_3, hl3_4] at c53b8))
            by_cases c75 : 0 ≤ 64
            rotate_left
            ·rw [if_neg c75] at H
             exact absurd H (by simp)
            rw [if_pos c75] at H
            have c75b0 := eq_true c75
            have c75b1 : decide (0 ≤ 64) = true := decide_eq_true c75
            clear c75
            by_cases c76 : 64 ≤ (x8_4.size : Int)
            rotate_left
            ·rw [if_neg c76] at H
             exact absurd H (by simp)
            rw [if_pos c76] at H
            have c76b0 := eq_true c76
            have c76b1 : decide (64 ≤ (x8_4.size : Int)) = true := decide_eq_true c76
            clear c76
            replace H := Option.bind_eq_some_iff.mp H
            obtain ⟨t165, A770, H⟩ := H
            replace H : (sha_Sum.l2 k4 t165 (x8_4.extract 64 x8_4.size)) = some r := H
            have A77 := Aside0.mk A770
            clear A770
            have c78b0 := eq_true (of_decide_eq_true (by first | (with_reducible assumption) | assumption) : 64 ≤ (x8_4.size : Int))
            have H' := Aside0.mk H
            clear H
            go_wp2_with (first | ((with_reducible refine gate_callee (f := 49) rfl ?_); refine goesL_ (some 54) rfl rfl Tryd.func49 (by kernel_rfl) rfl #[.pointer (some ⟨go5, 0, none⟩), .string (x8_4.extract 0 64)] rfl (by (try simp only [List.map_toArray, List.map_cons, List.map_nil]); first | done | rfl | (simp only [List.length_drop, List.length_take]; rfl)) ?_; (with_reducible refine (sha_state_block.calls k4 (fun k_ => some k_ = (.slice (some ⟨go5, 0, none⟩) x3_4.length co5 : Value).ownBlock) (.slice (some ⟨go5, 0, none⟩) x3_4.length co5) x3_4 (x8_4.extract 0 64) t165 w _ ?side1 ?side2 ?side3 A77.out).mono ?_); (case side1 => repeat (first | (with_reducible first | exact HB.out | apply below_alloc | apply pw_below_drewN | apply below_drew1) | exact HB.out)); (case side2 => exact Kd.R_tight rfl HO_3.out); (case side3 => exact Kd.C_kept_came (Kd.heap_int .u32) HRG.out (by repeat (first | (with_reducible first | exact HB.out | apply below_alloc | apply pw_below_drewN | apply below_drew1) | exact HB.out)) (fun k_ hs_ => (fun e_ => Kd.R_base HO_3.out k_ e_.symm) hs_)); rintro e w79 ⟨rfl, hy0, hb, hkp⟩; refine ⟨_, rfl, ?_⟩; have n0_ := Aside0.mk (Kd.R_reok rfl hy0 (fun k_ e_ => HO_3.out.1 k_ e_)); have n1_ := Aside0.mk (hb); clear HO_3; clear HB; have HO_3 := n0_; have HB := n1_; clear n0_ n1_; (try clear hb); (try clear hkp); (try clear hy0)))
            (try simp only [← hl3_4])
            go_roundg k4
            case measure => have := HK1.out; have := HJ21.out; have := HK3.out; have := HK4.out; omega
            case rel => exact ⟨(t165), (x8_4.extract 64 x8_4.size), (by first | rfl | (simp; done) | (simp [*]; done) | exact congrArg Value.bool (nonempty_l _) | (refine congrArg (Value.int _) ?_; first | omega | (unfold Go.RowKit.wrap64; omega))), H', ⟨by have := HK1.out; have := HJ21.out; have := HK3.out; have := HK4.out; omega⟩, ⟨by (try simp only [hl3_1]); (try simp only [hl5_21]); (try simp only [hl5_3]); (try simp only [hl3_4]); (with_reducible repeat (first | apply Kd.R_alloc | apply Kd.R_drewN | apply Kd.R_drew)); exact HO_3.out⟩, ⟨by repeat (first | (with_reducible first | exact HB.out | apply below_alloc | apply pw_below_drewN | apply below_drew1) | exact HB.out)⟩⟩

-- NOT PRINTED: function 58 (abi_NoEscape)

-- NOT PRINTED: function 56 (strings_Builder_copyCheck)

-- NOT PRINTED: function 59 (bytealg_MakeNoZero)

-- NOT PRINTED: function 57 (strings_Builder_grow)

-- NOT PRINTED: function 50 (strings_Builder_Grow)

-- NOT PRINTED: function 51 (strings_Builder_WriteByte)

/-! ### octets_Long: function 52 -/
def octets_Long.f (k : Nat) (a0 : Int) : Option (ByteArray × Bool) := (octets_laid.f k a0 4).bind fun bt171 => (some (bt171.1, bt171.2))
theorem octets_Long.mono : ∀ a0 k, LeO (octets_Long.f k a0) (octets_Long.f (k + 1) a0) := by
 intro a0 k
 unfold octets_Long.f
 repeat' first
  | (with_reducible exact octets_laid.mono _ _ _)
  | (with_reducible exact LeO.refl _)
  | (with_reducible exact LeO.none _)
  | (with_reducible refine LeO.ite ?_ ?_)
  | (with_reducible refine LeO.bind ?_ (fun _ => ?_))
  | exact octets_laid.mono _ _ _
  | exact LeO.none _
  | refine LeO.ite ?_ ?_
  | refine LeO.bind ?_ (fun _ => ?_)
set_option maxHeartbeats 64000000 in
set_option maxRecDepth 100000 in
theorem octets_Long.calls (k : Nat) (a0 : Int) (r1 : ByteArray) (r2 : Bool) (w : World) (h : octets_Long.f k a0 = some (r1, r2)) :
 Calls Tryd.prog 52 #[.int .i64 a0] w fun e w' => e = .returned (.tuple #[.string r1, .bool r2]) ∧ Below w.heap.size w w' := by
 have HB := Aside0.mk (Below.refl w.heap.size w)
 have H : ((octets_laid.f k a0 4).bind fun bt171 => (some (bt171.1, bt171.2))) = some (r1, r2) := h
 clear h
 replace H := Option.bind_eq_some_iff.mp H
 obtain ⟨⟨t171, t172⟩, A20, H⟩ := H
 replace H : (some (t171, t172)) = some (r1, r2) := H
 have A2 := Aside0.mk A20
 clear A20
 simp only [Option.some.injEq, Prod.mk.injEq] at H
 obtain ⟨rfl, rfl⟩ := H
 go_enter Tryd.func52, Tryd.ntmps52
 go_wp2_with (first | ((with_reducible refine gate_callee (f := 41) rfl ?_); refine goesL_ (some 5) rfl rfl Tryd.func41 (by kernel_rfl) rfl #[.int .i64 a0, .int .i64 4] rfl (by (try simp only [List.map_toArray, List.map_cons, List.map_nil]); first | done | rfl | (simp only [List.length_drop, List.length_take]; rfl)) ?_; (with_reducible refine (octets_laid.calls k a0 4 t171 t172 _ A2.out).mono ?_); rintro e w3 ⟨rfl, hb⟩; refine ⟨_, rfl, ?_⟩; have n0_ := Aside0.mk (below_step (by repeat (first | (with_reducible first | exact HB.out | apply below_alloc | apply pw_below_drewN | apply below_drew1) | exact HB.out)) hb); clear HB; have HB := n0_; clear n0_; (try clear hb); (try clear hb2); (try clear hk); (try clear hi)))
 go_ret2
 exact ⟨by first | rfl | (simp [errW_none, errW_some] <;> rfl) | (simp [*, errW_none, errW_some] <;> rfl), by repeat (first | (with_reducible first | exact HB.out | apply below_alloc | apply pw_below_drewN | apply below_drew1) | exact HB.out)⟩

-- NOT PRINTED: function 53 (strings_Builder_WriteString)

-- NOT PRINTED: function 54 (strings_Builder_String)

/-! ### sha_Input: function 43 (walked by hand) -/
/-- Texts with their lengths in four bytes, one behind the other. -/
def sha_Input.parts (k : Nat) : List ByteArray → Option (List UInt8)
  | [] => some []
  | s :: l => (octets_Long.f k (s.size : Int)).bind fun n => (sha_Input.parts k l).bind fun r => some ((n.1.toList ++ s.toList) ++ r)
def sha_Input.u8 (x : Int) : UInt8 := UInt8.ofNat (x % 256).toNat
def sha_Input.f (k : Nat) (a0 : Int) (l1 : List ByteArray) : Option ByteArray :=
  (sha_Input.parts k l1).bind fun r => if ([sha_Input.u8 a0] ++ r).length ≤ 140737488355328 then some ⟨([sha_Input.u8 a0] ++ r).toArray⟩ else none
theorem sha_Input.parts_mono : ∀ k l, LeO (sha_Input.parts k l) (sha_Input.parts (k + 1) l)
  | _, [] => LeO.refl _
  | k, s :: l => by
    unfold sha_Input.parts
    exact LeO.bind (octets_Long.mono _ _) fun _ => LeO.bind (sha_Input.parts_mono k l) fun _ => LeO.refl _
theorem sha_Input.mono : ∀ a0 l1 k, LeO (sha_Input.f k a0 l1) (sha_Input.f (k + 1) a0 l1) := by
  intro a0 l1 k
  unfold sha_Input.f
  exact LeO.bind (sha_Input.parts_mono k l1) fun _ => LeO.refl _
theorem sha_Input.wrap_step {n : Nat} {x : Int} (h : (n : Nat) ≤ 9223372036854775807) (h0 : 0 ≤ x) (h1 : x < (n : Int)) : IntKind.i64.wrap (x + 1) = x + 1 := by
  rw [IntKind.wrap_i64]; omega
theorem sha_Input.size_toList (s : ByteArray) : s.toList.length = s.size := by rw [ByteArray.toList_eq, data_length]
theorem sha_Input.drop_rd (l : List ByteArray) (x : Int) (h0 : 0 ≤ x) (h1 : x < (l.length : Int)) : l.drop x.toNat = rdOf ByteArray.empty l x :: l.drop (x + 1).toNat := by
  have hl : x.toNat < l.length := by omega
  have e : (x + 1).toNat = x.toNat + 1 := by omega
  rw [e, List.drop_eq_getElem_cons hl]
  congr 1
  simp [rdOf, List.getD, hl]
set_option maxHeartbeats 8000000 in
set_option maxRecDepth 100000 in
theorem sha_Input.calls (k : Nat) (a0 : Int) (A1 : Option Addr) (c1 : Nat) (l1 : List ByteArray) (r : ByteArray) (w : World) (hr1 : Kd.C Kd.string w A1 l1.length l1) (hc1 : l1.length ≤ c1) (h : sha_Input.f k a0 l1 = some r) :
    Calls Tryd.prog 43 #[.int .i64 a0, .slice A1 l1.length c1] w fun e w' => e = .returned (.string r) ∧ Below w.heap.size w w' := by
  have HR1 := Aside0.mk hr1
  have HC1 := Aside0.mk hc1
  clear hr1 hc1
  unfold sha_Input.f at h
  obtain ⟨rest, hR, h⟩ := Option.bind_eq_some_iff.mp h
  obtain ⟨bs, hbs⟩ : ∃ bs, [sha_Input.u8 a0] ++ rest = bs := ⟨_, rfl⟩
  rw [hbs] at h
  have hbl : bs.length ≤ 140737488355328 := by
    by_cases hh : bs.length ≤ 140737488355328
    · exact hh
    · rw [if_neg hh] at h; cases h
  rw [if_pos hbl] at h
  obtain rfl := Option.some.inj h
  have HL := Aside0.mk hbl
  have HT0 := Aside0.mk hR
  have HBS0 := Aside0.mk hbs
  have HBL := Aside0.mk (show 1 + rest.length = bs.length by rw [← hbs]; simp; omega)
  have hn1 := HR1.out.2.1
  have hrest : rest.length < bs.length := by have := HBL.out; omega
  clear h hbl hR hbs hrest
  go_enter Tryd.func43, Tryd.ntmps43
  go_wp2_with (first | ((with_reducible refine gate_dst (N := 5) rfl ?_); refine Kd.event_run (w1 := w.alloc (.cells #[.pointer none, .slice none 0 0] 76)) (v := .pointer (some ⟨w.heap.size, 0, none⟩)) ?hg ?hr ?_; (case hg => rfl); (case hr => first | (go_simp; done) | (go_simp; rfl))) | (go_at_call 50; (refine (Bld.St.grow w 64 (by decide)).mono ?_); rintro e w3 ⟨rfl, hs⟩; obtain ⟨b, hb_⟩ : ∃ b, b = w.heap.size := ⟨_, rfl⟩; rw [← hb_] at hs; rw [← hb_]; have HS := Aside0.mk hs; have LB := Aside0.mk (show w.heap.size ≤ b by rw [hb_]; exact Nat.le_refl _); clear hs hb_) | (go_at_call 51; (refine (HS.out.byte _ ?s0 ?s1 ?s2).mono ?_); (case s0 => first | omega | (simp only [IntKind.wrap_u8]; omega)); (case s1 => first | omega | (simp only [IntKind.wrap_u8]; omega)); (case s2 => first | (simp; done) | (have := HL.out; have := HBL.out; simp at *; omega)); rintro e w4 ⟨rfl, hs⟩; have n0_ := Aside0.mk hs; clear HS hs; have HS := n0_; clear n0_))
  go_loopg [16] l1.length (fun kq v16 w' => ∃ x : Int, v16 = .int .i64 x ∧ Aside0 (0 ≤ x ∧ x + (kq : Int) = (l1.length : Int)) ∧ Aside0 (∃ acc rest, sha_Input.parts k (l1.drop x.toNat) = some rest ∧ acc ++ rest = bs ∧ Bld.St w b acc w'))
  case atStart => exact ⟨0, (by first | rfl | simp), ⟨by omega⟩, ⟨_, rest, HT0.out, HBS0.out, HS.out⟩⟩
  case round =>
    obtain ⟨x, rfl, HP, HE⟩ := hrel
    clear HS HBL HT0 HBS0
    obtain ⟨acc, rest1, hT, hE, hS⟩ := HE.out
    have HS := Aside0.mk hS
    have hp := HP.out
    cases gk with
    | zero =>
      have hc : decide (x < (l1.length : Int)) = false := decide_eq_false (by omega)
      have hd : l1.drop x.toNat = [] := List.drop_of_length_le (by omega)
      rw [hd] at hT
      have hr0 : rest1 = [] := (Option.some.inj hT).symm
      have HBS := Aside0.mk (show acc = bs by rw [← hE, hr0, List.append_nil])
      clear hT hE hS hd hr0 HE hp HP
      go_wp2_with (first | (go_at_call 54; have n0_ := Aside0.mk (HS.out.cast (show _ = bs from HBS.out)); clear HS; have HS := n0_; clear n0_; (refine HS.out.out.mono ?_); rintro e w7 ⟨rfl, hs⟩; have n0_ := Aside0.mk hs; clear HS hs; have HS := n0_; clear n0_))
      go_ret
      exact ⟨rfl, HS.out.below (Below.refl _ _) LB.out⟩
    | succ k1 =>
      have hc : decide (x < (l1.length : Int)) = true := decide_eq_true (by omega)
      have p0 : (0 ≤ x) = True := eq_true (by omega)
      have q0 : (x < (l1.length : Int)) = True := eq_true (by omega)
      have hw1 := sha_Input.wrap_step (n := l1.length) (x := x) hn1 (by omega) (by omega)
      rw [sha_Input.drop_rd l1 x (by omega) (by omega)] at hT
      unfold sha_Input.parts at hT
      obtain ⟨⟨n, ok⟩, hT1, hT⟩ := Option.bind_eq_some_iff.mp hT
      obtain ⟨rest2, hT2, hT⟩ := Option.bind_eq_some_iff.mp hT
      have hr1 : (n.toList ++ (rdOf ByteArray.empty l1 x).toList) ++ rest2 = rest1 := Option.some.inj hT
      have HT := Aside0.mk hT1
      have HT2 := Aside0.mk hT2
      have HE2 := Aside0.mk (show ((acc ++ n.toList) ++ (rdOf ByteArray.empty l1 x).toList) ++ rest2 = bs by rw [← hE, ← hr1]; simp only [List.append_assoc])
      have HBL := Aside0.mk (show acc.length + n.size + (rdOf ByteArray.empty l1 x).size + rest2.length = bs.length by rw [← HE2.out]; simp [sha_Input.size_toList]; omega)
      obtain ⟨ad, e4_, hx⟩ := Kd.at_string HR1.out x (by omega) (by omega)
      cases e4_
      have hx0 := ((HS.out.below (Below.refl _ _) LB.out).cell (World.block_lt_of_cell? w _ hx)).trans hx
      clear hT hT1 hT2 hE hS hr1 HE hx hp
      go_wp2_with (first | (go_at_call 52; (with_reducible refine (octets_Long.calls k _ n ok _ HT.out).mono ?_); rintro e w5 ⟨rfl, hb⟩; have n0_ := Aside0.mk (HS.out.later hb); clear HS hb; have HS := n0_; clear n0_) | (go_at_call 53; (refine (HS.out.str _ ?s2).mono ?_); (case s2 => have := HL.out; have := HBL.out; (try simp only [List.length_append, sha_Input.size_toList]); omega); rintro e w6 ⟨rfl, hs⟩; have n0_ := Aside0.mk hs; clear HS hs; have HS := n0_; clear n0_))
      go_roundg k1
      case measure => omega
      case rel => exact ⟨x + 1, (by first | rfl | (simp; done) | (simp [*]; done) | (refine congrArg (Value.int _) ?_; rw [hw1])), ⟨by have := HP.out; omega⟩, ⟨_, rest2, HT2.out, HE2.out, HS.out⟩⟩

/-! ### sha_Tag: function 31 -/
def sha_Tag.f (k : Nat) (a0 : Int) (l1 : List ByteArray) : Option (ByteArray) := (sha_Input.f k a0 l1).bind fun t173 => ((sha_Sum.f k t173).bind fun t174 => (some t174))
theorem sha_Tag.mono : ∀ a0 a1 k, LeO (sha_Tag.f k a0 a1) (sha_Tag.f (k + 1) a0 a1) := by
 intro a0 a1 k
 unfold sha_Tag.f
 repeat' first
  | (with_reducible exact sha_Input.mono _ _ _)
  | (with_reducible exact sha_Sum.mono _ _)
  | (with_reducible exact LeO.refl _)
  | (with_reducible exact LeO.none _)
  | (with_reducible refine LeO.ite ?_ ?_)
  | (with_reducible refine LeO.bind ?_ (fun _ => ?_))
  | exact sha_Input.mono _ _ _
  | exact sha_Sum.mono _ _
  | exact LeO.none _
  | refine LeO.ite ?_ ?_
  | refine LeO.bind ?_ (fun _ => ?_)
set_option maxHeartbeats 64000000 in
set_option maxRecDepth 100000 in
theorem sha_Tag.calls (k : Nat) (a0 : Int) (A1 : Option Addr) (c1 : Nat) (l1 : List ByteArray) (r : ByteArray) (w : World) (hr1 : Kd.C Kd.string w A1 l1.length l1) (hc1 : l1.length ≤ c1) (hrG : Kd.C (Kd.int .u32) w (some ⟨0, 0, none⟩) keysL.length keysL) (h : sha_Tag.f k a0 l1 = some r) :
 Calls Tryd.prog 31 #[.int .i64 a0, .slice A1 l1.length c1] w fun e w' => e = .returned (.string r) ∧ Below w.heap.size w w' := by
 have HR1 := Aside0.mk hr1
 have HC1 := Aside0.mk hc1
 clear hr1 hc1
 have HRG := Aside0.mk hrG
 clear hrG
 have HB := Aside0.mk (Below.refl w.heap.size w)
 have H : ((sha_Input.f k a0 l1).bind fun t173 => ((sha_Sum.f k t173).bind fun t174 => (some t174))) = some r := h
 clear h
 replace H := Option.bind_eq_some_iff.mp H
 obtain ⟨t173, A30, H⟩ := H
 replace H : ((sha_Sum.f k t173).bind fun t174 => (some t174)) = some r := H
 have A3 := Aside0.mk A30
 clear A30
 replace H := Option.bind_eq_some_iff.mp H
 obtain ⟨t174, A40, H⟩ := H
 replace H : (some t174) = some r := H
 have A4 := Aside0.mk A40
 clear A40
 obtain rfl := Option.some.inj H
 go_enter Tryd.func31, Tryd.ntmps31
 go_wp2_with (first | ((with_reducible refine gate_callee (f := 43) rfl ?_); refine goesL_ (some 7) rfl rfl Tryd.func43 (by kernel_rfl) rfl #[.int .i64 a0, .slice A1 l1.length c1] rfl (by (try simp only [List.map_toArray, List.map_cons, List.map_nil]); first | done | rfl | (simp only [List.length_drop, List.length_take]; rfl)) ?_; (with_reducible refine (sha_Input.calls k a0 _ _ l1 t173 _ ?side1 ?side2 A3.out).mono ?_); (case side1 => repeat (first | exact HR1.out | (with_reducible refine Kd.C_alloc ?_ _) | (with_reducible refine Kd.C_drewN ?_ _) | (with_reducible refine Kd.C_drew ?_))); (case side2 => exact HC1.out); rintro e w5 ⟨rfl, hb⟩; refine ⟨_, rfl, ?_⟩; have n0_ := Aside0.mk (below_step (by repeat (first | (with_reducible first | exact HB.out | apply below_alloc | apply pw_below_drewN | apply below_drew1) | exact HB.out)) hb); clear HB; have HB := n0_; clear n0_; (try clear hb); (try clear hb2); (try clear hk); (try clear hi)) | ((with_reducible refine gate_callee (f := 42) rfl ?_); refine goesL_ (some 8) rfl rfl Tryd.func42 (by kernel_rfl) rfl #[.string t173] rfl (by (try simp only [List.map_toArray, List.map_cons, List.map_nil]); first | done | rfl | (simp only [List.length_drop, List.length_take]; rfl)) ?_; (with_reducible refine (sha_Sum.calls k t173 t174 _ ?side1 A4.out).mono ?_); (case side1 => repeat (first | exact (Kd.C_below HRG.out HB.out) | (with_reducible refine Kd.C_alloc ?_ _) | (with_reducible refine Kd.C_drewN ?_ _) | (with_reducible refine Kd.C_drew ?_))); rintro e w6 ⟨rfl, hb⟩; refine ⟨_, rfl, ?_⟩; have n0_ := Aside0.mk (below_step (by repeat (first | (with_reducible first | exact HB.out | apply below_alloc | apply pw_below_drewN | apply below_drew1) | exact HB.out)) hb); clear HB; have HB := n0_; clear n0_; (try clear hb); (try clear hb2); (try clear hk); (try clear hi)))
 go_ret
 exact ⟨by first | rfl | (simp [errW_none, errW_some] <;> rfl) | (simp [*, errW_none, errW_some] <;> rfl), by repeat (first | (with_reducible first | exact HB.out | apply below_alloc | apply pw_below_drewN | apply below_drew1) | exact HB.out)⟩

/-! ### wots_Chain: function 19 -/
def wots_Chain.l0 : Nat → ByteArray → ByteArray → Int → Int → Option (ByteArray)
 | 0, _, _, _, _ => none
 | k + 1, x1, x7, x17, x18 => if x18 < x17 then ((sha_Tag.f k 1 (([x7, x1] : List ByteArray))).bind fun t180 => (wots_Chain.l0 k t180 x7 x17 (wrap64 (x18 + 1)))) else (some x1)
def wots_Chain.f (k : Nat) (a0 : Int) (a1 : ByteArray) (a2 : Int) : Option (ByteArray) := (octets_Byte.f k (Go.bits .and .i64 a0 255)).bind fun bt175 => (wots_Chain.l0 k a1 bt175.1 (mn (mx a2 0) 1000) 0)
theorem wots_Chain.mono_l : ∀ k, (∀ y0 y1 y2 y3, LeO (wots_Chain.l0 k y0 y1 y2 y3) (wots_Chain.l0 (k + 1) y0 y1 y2 y3))
 | 0 => fun _ _ _ _ r h => by simp [wots_Chain.l0] at h
 | k + 1 => by
  have ih0 := wots_Chain.mono_l k
  ·intro y0 y1 y2 y3
   unfold wots_Chain.l0
   repeat' first
   | (with_reducible exact ih0 _ _ _ _)
   | (with_reducible exact octets_Byte.mono _ _)
   | (with_reducible exact sha_Tag.mono _ _ _)
   | (with_reducible exact LeO.refl _)
   | (with_reducible exact LeO.none _)
   | (with_reducible refine LeO.ite ?_ ?_)
   | (with_reducible refine LeO.bind ?_ (fun _ => ?_))
   | exact ih0 _ _ _ _
   | exact octets_Byte.mono _ _
   | exact sha_Tag.mono _ _ _
   | exact LeO.none _
   | refine LeO.ite ?_ ?_
   | refine LeO.bind ?_ (fun _ => ?_)
theorem wots_Chain.mono : ∀ a0 a1 a2 k, LeO (wots_Chain.f k a0 a1 a2) (wots_Chain.f (k + 1) a0 a1 a2) := by
 intro a0 a1 a2 k
 have ih0 := wots_Chain.mono_l k
 unfold wots_Chain.f
 repeat' first
  | (with_reducible exact ih0 _ _ _ _)
  | (with_reducible exact octets_Byte.mono _ _)
  | (with_reducible exact sha_Tag.mono _ _ _)
  | (with_reducible exact LeO.refl _)
  | (with_reducible exact LeO.none _)
  | (with_reducible refine LeO.ite ?_ ?_)
  | (with_reducible refine LeO.bind ?_ (fun _ => ?_))
  | exact ih0 _ _ _ _
  | exact octets_Byte.mono _ _
  | exact sha_Tag.mono _ _ _
  | exact LeO.none _
  | refine LeO.ite ?_ ?_
  | refine LeO.bind ?_ (fun _ => ?_)
set_option maxHeartbeats 64000000 in
set_option maxRecDepth 100000 in
theorem wots_Chain.calls (k : Nat) (a0 : Int) (a1 : ByteArray) (a2 : Int) (r : ByteArray) (w : World) (hrG : Kd.C (Kd.int .u32) w (some ⟨0, 0, none⟩) keysL.length keysL) (h : wots_Chain.f k a0 a1 a2 = some r) :
 Calls Tryd.prog 19 #[.int .i64 a0, .string a1, .int .i64 a2] w fun e w' => e = .returned (.string r) ∧ Below w.heap.size w w' := by
 have HRG := Aside0.mk hrG
 clear hrG
 have HB := Aside0.mk (Below.refl w.heap.size w)
 have H : ((octets_Byte.f k (Go.bits .and .i64 a0 255)).bind fun bt175 => (wots_Chain.l0 k a1 bt175.1 (mn (mx a2 0) 1000) 0)) = some r := h
 clear h
 replace H := Option.bind_eq_some_iff.mp H
 obtain ⟨⟨t175, t176⟩, A40, H⟩ := H
 replace H : (wots_Chain.l0 k a1 t175 (mn (mx a2 0) 1000) 0) = some r := H
 have A4 := Aside0.mk A40
 clear A40
 obtain ⟨ji5, hji5⟩ : ∃ j_ : Int, (mx a2 0) = j_ := ⟨_, rfl⟩
 replace H : (wots_Chain.l0 k a1 t175 (mn (ji5) 1000) 0) = some r := by first | (rw [hji5] at H; exact H) | (simp only [hji5] at H ⊢; exact H)
 (try rw [hji5] at A4)
 (try (have hji5l : 0 ≤ ji5 := by (rw [← hji5]; unfold mx; (repeat' split) <;> omega)))
 (try (have hji5m : 0 ≤ ji5 := by omega))
 have hji5_ : (if a2 < 0 then 0 else a2) = ji5 := hji5
 obtain ⟨ji6, hji6⟩ : ∃ j_ : Int, (mn (ji5) 1000) = j_ := ⟨_, rfl⟩
 replace H : (wots_Chain.l0 k a1 t175 ji6 0) = some r := by first | (rw [hji6] at H; exact H) | (simp only [hji6] at H ⊢; exact H)
 (try rw [hji6] at A4)
 have hji6_ : (if 1000 < (ji5) then 1000 else (ji5)) = ji6 := hji6
 have H' := Aside0.mk H
 clear H
 go_enter Tryd.func19, Tryd.ntmps19
 go_wp2_with (first | ((with_reducible refine gate_callee (f := 30) rfl ?_); refine goesL_ (some 12) rfl rfl Tryd.func30 (by kernel_rfl) rfl #[.int .i64 (Go.bits .and .i64 a0 255)] rfl (by (try simp only [List.map_toArray, List.map_cons, List.map_nil]); first | done | rfl | (simp only [List.length_drop, List.length_take]; rfl)) ?_; (with_reducible refine (octets_Byte.calls k (Go.bits .and .i64 a0 255) t175 t176 _ A4.out).mono ?_); rintro e w7 ⟨rfl, hb⟩; refine ⟨_, rfl, ?_⟩; have n0_ := Aside0.mk (below_step (by repeat (first | (with_reducible first | exact HB.out | apply below_alloc | apply pw_below_drewN | apply below_drew1) | exact HB.out)) hb); clear HB; have HB := n0_; clear n0_; (try clear hb); (try clear hb2); (try clear hk); (try clear hi)))
 go_loopg [1, 18] k (fun kq v1 v18 w' => ∃ (x1_1 : ByteArray) (x18_1 : Int), v1 = .string x1_1 ∧ v18 = .int .i64 x18_1 ∧ Aside0 (wots_Chain.l0 kq x1_1 t175 ji6 x18_1 = some r) ∧ Aside0 (kq ≤ k) ∧ Aside0 (Below w.heap.size w w'))
 case atStart => exact ⟨(a1), (0), (by first | rfl | (simp; done) | (simp [*]; done) | exact congrArg Value.bool (nonempty_l _) | (refine congrArg (Value.int _) ?_; first | omega | (unfold Go.RowKit.wrap64; omega))), (by first | rfl | (simp; done) | (simp [*]; done) | exact congrArg Value.bool (nonempty_l _) | (refine congrArg (Value.int _) ?_; first | omega | (unfold Go.RowKit.wrap64; omega))), H', ⟨Nat.le_refl _⟩, ⟨by repeat (first | (with_reducible first | exact HB.out | apply below_alloc | apply pw_below_drewN | apply below_drew1) | exact HB.out)⟩⟩
 case round =>
  clear H'
  (try clear c1); (try clear p2); (try clear c3); (try clear p6)
  obtain ⟨x1_1, x18_1, rfl, rfl, HA, HK1, HB⟩ := hrel
  cases gk with
  | zero => exact absurd HA.out (by simp [wots_Chain.l0])
  | succ k1 =>
   have H := HA.out
   clear HA
   simp only [wots_Chain.l0] at H
   by_cases c8 : x18_1 < ji6
   ·rw [if_pos c8] at H
    have c8b0 : decide (x18_1 < ji6) = true := decide_eq_true c8
    clear c8
    obtain ⟨y177, hy177⟩ : ∃ y_ : List ByteArray, y_ = (([t175, x1_1] : List ByteArray)) := ⟨_, rfl⟩
    replace H : ((sha_Tag.f k1 1 y177).bind fun t180 => (wots_Chain.l0 k1 t180 t175 ji6 (wrap64 (x18_1 + 1)))) = some r := by first | (rw [hy177]; with_reducible exact H) | (have H2_ := (Option.bind_some _ _).symm.trans H; rw [hy177]; with_reducible exact H2_) | (have H2_ := (Option.bind_some _ _).symm.trans H; with_reducible exact H2_) | with_reducible exact H | (rw [hy177]; exact H) | exact H
    have Ny177 := Aside0.mk hy177
    clear hy177
    replace H := Option.bind_eq_some_iff.mp H
    obtain ⟨t180, A90, H⟩ := H
    replace H : (wots_Chain.l0 k1 t180 t175 ji6 (wrap64 (x18_1 + 1))) = some r := H
    have A9 := Aside0.mk A90
    clear A90
    have H' := Aside0.mk H
    clear H
    go_wp2_with (first | ((with_reducible refine gate_dst (N := 22) rfl ?_); refine Kd.R_lit Kd.string _ 9 ?hg (N := 22) ?hd (xs := ([t175, x1_1] : List ByteArray)) (inner := [.string t175, .string x1_1]) (ok := fun _ => True) (okp := fun _ => True) ?hr ?hp (fun _ hk => hk) trivial (Below.refl _ _) (Nat.le_refl _) (by simp) ?_; (case hd => rfl); (case hg => rfl); (case hr => first | (go_simp; done) | (go_simp; rfl)); (case hp => exact (Reps.one (show Kd.M Kd.string _ _ _ t175 [.string t175] from rfl) (Reps.one (show Kd.M Kd.string _ _ _ x1_1 [.string x1_1] from rfl) (Reps.none _ _)))); intro v178 w10 ho11 hb hg_ hnew_; clear hg_ hnew_; (first | rw [← Ny177.out] at ho11 | (simp only [Int.reduceToNat] at ho11; rw [← Ny177.out] at ho11)); have n0_ := Aside0.mk (Kd.R_lower ho11 (below_size (by repeat (first | (with_reducible first | exact HB.out | apply below_alloc | apply pw_below_drewN | apply below_drew1) | exact HB.out)))); have n1_ := Aside0.mk (below_step (by repeat (first | (with_reducible first | exact HB.out | apply below_alloc | apply pw_below_drewN | apply below_drew1) | exact HB.out)) hb); clear HB; have HO179 := n0_; have HB := n1_; clear n0_ n1_; clear hb ho11; obtain ⟨Ao12, co12, eo12⟩ := Kd.R_slice HO179.out; subst eo12) | ((with_reducible refine gate_callee (f := 31) rfl ?_); refine goesL_ (some 23) rfl rfl Tryd.func31 (by kernel_rfl) rfl #[.int .i64 1, .slice Ao12 y177.length co12] rfl (by (try simp only [List.map_toArray, List.map_cons, List.map_nil]); first | done | rfl | (simp only [List.length_drop, List.length_take]; rfl)) ?_; (with_reducible refine (sha_Tag.calls k1 1 _ _ y177 t180 _ ?side1 ?side2 ?side3 A9.out).mono ?_); (case side1 => repeat (first | exact (Kd.R_reads' HO179.out).2.2 | (with_reducible refine Kd.C_alloc ?_ _) | (with_reducible refine Kd.C_drewN ?_ _) | (with_reducible refine Kd.C_drew ?_))); (case side2 => exact (Kd.R_reads' HO179.out).2.1); (case side3 => repeat (first | exact (Kd.C_below HRG.out HB.out) | (with_reducible refine Kd.C_alloc ?_ _) | (with_reducible refine Kd.C_drewN ?_ _) | (with_reducible refine Kd.C_drew ?_))); rintro e w13 ⟨rfl, hb⟩; refine ⟨_, rfl, ?_⟩; have n0_ := Aside0.mk (Kd.R_below (by (with_reducible repeat (first | apply Kd.R_alloc | apply Kd.R_drewN | apply Kd.R_drew)); exact HO179.out) hb); have n1_ := Aside0.mk (below_step (by repeat (first | (with_reducible first | exact HB.out | apply below_alloc | apply pw_below_drewN | apply below_drew1) | exact HB.out)) hb); clear HO179; clear HB; have HO179 := n0_; have HB := n1_; clear n0_ n1_; (try clear hb); (try clear hb2); (try clear hk); (try clear hi)))
    go_roundg k1
    case measure => have := HK1.out; omega
    case rel => exact ⟨(t180), (wrap64 (x18_1 + 1)), (by first | rfl | (simp; done) | (simp [*]; done) | exact congrArg Value.bool (nonempty_l _) | (refine congrArg (Value.int _) ?_; first | omega | (unfold Go.RowKit.wrap64; omega))), (by first | rfl | (simp; done) | (simp [*]; done) | exact congrArg Value.bool (nonempty_l _) | (refine congrArg (Value.int _) ?_; first | omega | (unfold Go.RowKit.wrap64; omega))), H', ⟨by have := HK1.out; omega⟩, ⟨by repeat (first | (with_reducible first | exact HB.out | apply below_alloc | apply pw_below_drewN | apply below_drew1) | exact HB.out)⟩⟩
   ·rw [if_neg c8] at H
    have c8b0 : decide (x18_1 < ji6) = false := decide_eq_false c8
    clear c8
    obtain rfl := Option.some.inj H
    go_wp2
    go_ret
    exact ⟨by first | rfl | (simp [errW_none, errW_some] <;> rfl) | (simp only [← hji5, ← hji6]; first | rfl | (simp [errW_none, errW_some] <;> rfl)) | (simp [*, errW_none, errW_some] <;> rfl), by repeat (first | (with_reducible first | exact HB.out | apply below_alloc | apply pw_below_drewN | apply below_drew1) | exact HB.out)⟩

/-! ### palaverref01_Number: function 32 -/
mutual
def palaverref01_Number.l0 : Nat → Int → Int → Int → Int → Option (ByteArray × Bool)
 | 0, _, _, _, _ => none
 | k + 1, x0, x1, x6, x7 => if x7 < x1 then (palaverref01_Number.l0 k x0 x1 (wrap64 (256 * x6)) (wrap64 (x7 + 1))) else (if x0 < 0 then (palaverref01_Number.j1 k x0 x1 true) else (palaverref01_Number.j1 k x0 x1 (decide (x0 ≥ x6))))
def palaverref01_Number.j1 : Nat → Int → Int → Bool → Option (ByteArray × Bool)
 | 0, _, _, _ => none
 | k + 1, x0, x1, x23 => if x23 = true then (some ((⟨#[]⟩ : ByteArray), false)) else (palaverref01_Number.l1 k x0 x1 (⟨#[]⟩ : ByteArray) 0)
def palaverref01_Number.l1 : Nat → Int → Int → ByteArray → Int → Option (ByteArray × Bool)
 | 0, _, _, _, _ => none
 | k + 1, x0, x1, x8, x9 => if x9 < x1 then ((some (([(Int.tmod x0 256) % 256] : List Int) : List Int)).bind fun y181 => (if (strOfNums y181).size + x8.size ≤ 9223372036854775807 then (palaverref01_Number.l1 k (wrap64 (Int.tdiv x0 256)) x1 ((strOfNums y181) ++ x8) (wrap64 (x9 + 1))) else (none))) else (some (x8, true))
end
def palaverref01_Number.f (k : Nat) (a0 : Int) (a1 : Int) : Option (ByteArray × Bool) := palaverref01_Number.l0 k a0 a1 1 0
theorem palaverref01_Number.mono_l : ∀ k, (∀ y0 y1 y2 y3, LeO (palaverref01_Number.l0 k y0 y1 y2 y3) (palaverref01_Number.l0 (k + 1) y0 y1 y2 y3)) ∧ (∀ y0 y1 y2, LeO (palaverref01_Number.j1 k y0 y1 y2) (palaverref01_Number.j1 (k + 1) y0 y1 y2)) ∧ (∀ y0 y1 y2 y3, LeO (palaverref01_Number.l1 k y0 y1 y2 y3) (palaverref01_Number.l1 (k + 1) y0 y1 y2 y3))
 | 0 => ⟨fun _ _ _ _ r h => by simp [palaverref01_Number.l0] at h, fun _ _ _ r h => by simp [palaverref01_Number.j1] at h, fun _ _ _ _ r h => by simp [palaverref01_Number.l1] at h⟩
 | k + 1 => by
  obtain ⟨ih0, ih1, ih2⟩ := palaverref01_Number.mono_l k
  refine ⟨?_, ?_, ?_⟩
  ·intro y0 y1 y2 y3
   unfold palaverref01_Number.l0
   repeat' first
   | (with_reducible exact ih0 _ _ _ _)
   | (with_reducible exact ih1 _ _ _)
   | (with_reducible exact ih2 _ _ _ _)
   | (with_reducible exact LeO.refl _)
   | (with_reducible exact LeO.none _)
   | (with_reducible refine LeO.ite ?_ ?_)
   | (with_reducible refine LeO.bind ?_ (fun _ => ?_))
   | exact ih0 _ _ _ _
   | exact ih1 _ _ _
   | exact ih2 _ _ _ _
   | exact LeO.none _
   | refine LeO.ite ?_ ?_
   | refine LeO.bind ?_ (fun _ => ?_)
  ·intro y0 y1 y2
   unfold palaverref01_Number.j1
   repeat' first
   | (with_reducible exact ih0 _ _ _ _)
   | (with_reducible exact ih1 _ _ _)
   | (with_reducible exact ih2 _ _ _ _)
   | (with_reducible exact LeO.refl _)
   | (with_reducible exact LeO.none _)
   | (with_reducible refine LeO.ite ?_ ?_)
   | (with_reducible refine LeO.bind ?_ (fun _ => ?_))
   | exact ih0 _ _ _ _
   | exact ih1 _ _ _
   | exact ih2 _ _ _ _
   | exact LeO.none _
   | refine LeO.ite ?_ ?_
   | refine LeO.bind ?_ (fun _ => ?_)
  ·intro y0 y1 y2 y3
   unfold palaverref01_Number.l1
   repeat' first
   | (with_reducible exact ih0 _ _ _ _)
   | (with_reducible exact ih1 _ _ _)
   | (with_reducible exact ih2 _ _ _ _)
   | (with_reducible exact LeO.refl _)
   | (with_reducible exact LeO.none _)
   | (with_reducible refine LeO.ite ?_ ?_)
   | (with_reducible refine LeO.bind ?_ (fun _ => ?_))
   | exact ih0 _ _ _ _
   | exact ih1 _ _ _
   | exact ih2 _ _ _ _
   | exact LeO.none _
   | refine LeO.ite ?_ ?_
   | refine LeO.bind ?_ (fun _ => ?_)
theorem palaverref01_Number.mono : ∀ a0 a1 k, LeO (palaverref01_Number.f k a0 a1) (palaverref01_Number.f (k + 1) a0 a1) := by
 intro a0 a1 k
 obtain ⟨ih0, ih1, ih2⟩ := palaverref01_Number.mono_l k
 unfold palaverref01_Number.f
 repeat' first
  | (with_reducible exact ih0 _ _ _ _)
  | (with_reducible exact ih1 _ _ _)
  | (with_reducible exact ih2 _ _ _ _)
  | (with_reducible exact LeO.refl _)
  | (with_reducible exact LeO.none _)
  | (with_reducible refine LeO.ite ?_ ?_)
  | (with_reducible refine LeO.bind ?_ (fun _ => ?_))
  | exact ih0 _ _ _ _
  | exact ih1 _ _ _
  | exact ih2 _ _ _ _
  | exact LeO.none _
  | refine LeO.ite ?_ ?_
  | refine LeO.bind ?_ (fun _ => ?_)
set_option maxHeartbeats 64000000 in
set_option maxRecDepth 100000 in
theorem palaverref01_Number.calls (k : Nat) (a0 : Int) (a1 : Int) (r1 : ByteArray) (r2 : Bool) (w : World) (h : palaverref01_Number.f k a0 a1 = some (r1, r2)) :
 Calls Tryd.prog 32 #[.int .i64 a0, .int .i64 a1] w fun e w' => e = .returned (.tuple #[.string r1, .bool r2]) ∧ Below w.heap.size w w' := by
 have HB := Aside0.mk (Below.refl w.heap.size w)
 have H : (palaverref01_Number.l0 k a0 a1 1 0) = some (r1, r2) := h
 clear h
 have H' := Aside0.mk H
 clear H
 go_enter Tryd.func32, Tryd.ntmps32
 go_wp2
 go_loopg [6, 7] k (fun kq v6 v7 w' => ∃ (x6_1 : Int) (x7_1 : Int), v6 = .int .i64 x6_1 ∧ v7 = .int .i64 x7_1 ∧ Aside0 (palaverref01_Number.l0 kq a0 a1 x6_1 x7_1 = some (r1, r2)) ∧ Aside0 (kq ≤ k) ∧ Aside0 (Below w.heap.size w w'))
 case atStart => exact ⟨(1), (0), (by first | rfl | (simp; done) | (simp [*]; done) | exact congrArg Value.bool (nonempty_l _) | (refine congrArg (Value.int _) ?_; first | omega | (unfold Go.RowKit.wrap64; omega))), (by first | rfl | (simp; done) | (simp [*]; done) | exact congrArg Value.bool (nonempty_l _) | (refine congrArg (Value.int _) ?_; first | omega | (unfold Go.RowKit.wrap64; omega))), H', ⟨Nat.le_refl _⟩, ⟨by repeat (first | (with_reducible first | exact HB.out | apply below_alloc | apply pw_below_drewN | apply below_drew1) | exact HB.out)⟩⟩
 case round =>
  clear H'
  (try clear p2)
  obtain ⟨x6_1, x7_1, rfl, rfl, HA, HK1, HB⟩ := hrel
  cases gk with
  | zero => exact absurd HA.out (by simp [palaverref01_Number.l0])
  | succ k1 =>
   have H := HA.out
   clear HA
   simp only [palaverref01_Number.l0] at H
   by_cases c3 : x7_1 < a1
   ·rw [if_pos c3] at H
    have c3b0 : decide (x7_1 < a1) = true := decide_eq_true c3
    clear c3
    have H' := Aside0.mk H
    clear H
    go_wp2
    go_roundg k1
    case measure => have := HK1.out; omega
    case rel => exact ⟨(wrap64 (256 * x6_1)), (wrap64 (x7_1 + 1)), (by first | rfl | (simp; done) | (simp [*]; done) | exact congrArg Value.bool (nonempty_l _) | (refine congrArg (Value.int _) ?_; first | omega | (unfold Go.RowKit.wrap64; omega))), (by first | rfl | (simp; done) | (simp [*]; done) | exact congrArg Value.bool (nonempty_l _) | (refine congrArg (Value.int _) ?_; first | omega | (unfold Go.RowKit.wrap64; omega))), H', ⟨by have := HK1.out; omega⟩, ⟨by repeat (first | (with_reducible first | exact HB.out | apply below_alloc | apply pw_below_drewN | apply below_drew1) | exact HB.out)⟩⟩
   ·rw [if_neg c3] at H
    have c3b0 : decide (x7_1 < a1) = false := decide_eq_false c3
    clear c3
    have HC4 := Aside0.mk H
    clear H
    go_upto_region 6 with (fail)
    go_cut [23] (fun v23 wc => ∃ (kq : Nat) (x23_3 : Bool), v23 = .bool x23_3 ∧ Aside0 (palaverref01_Number.j1 kq a0 a1 x23_3 = some (r1, r2)) ∧ Aside0 (kq ≤ k1) ∧ Aside0 (Below w.heap.size w wc))
    case first =>
     have H := HC4.out
     clear HC4
     by_cases c5 : a0 < 0
     ·rw [if_pos c5] at H
      have c5b0 : decide (a0 < 0) = true := decide_eq_true c5
      clear c5
      (first | rw [c5b0] | (simp only [i64_w, i32_w]; rw [c5b0]) | skip)
      have H' := Aside0.mk H
      clear H
      go_wp2
      go_meet
      case rel => exact ⟨_, (true), (by first | rfl | (simp; done) | (simp [*]; done) | exact congrArg Value.bool (nonempty_l _) | (refine congrArg (Value.int _) ?_; first | omega | (unfold Go.RowKit.wrap64; omega))), H', ⟨by have := HK1.out; first | omega | exact Nat.le_refl _⟩, ⟨by repeat (first | (with_reducible first | exact HB.out | apply below_alloc | apply pw_below_drewN | apply below_drew1) | exact HB.out)⟩⟩
     ·rw [if_neg c5] at H
      have c5b0 : decide (a0 < 0) = false := decide_eq_false c5
      clear c5
      (first | rw [c5b0] | (simp only [i64_w, i32_w]; rw [c5b0]) | skip)
      have H' := Aside0.mk H
      clear H
      go_wp2
      go_meet
      case rel => exact ⟨_, (decide (a0 ≥ x6_1)), (by first | rfl | (simp; done) | (simp [*]; done) | exact congrArg Value.bool (nonempty_l _) | (refine congrArg (Value.int _) ?_; first | omega | (unfold Go.RowKit.wrap64; omega))), H', ⟨by have := HK1.out; first | omega | exact Nat.le_refl _⟩, ⟨by repeat (first | (with_reducible first | exact HB.out | apply below_alloc | apply pw_below_drewN | apply below_drew1) | exact HB.out)⟩⟩
    case rest =>
     clear HC4
     (try clear p2); (try clear c3); (try clear c3b0); (try clear c5); (try clear c5b0); (try clear p2)
     obtain ⟨kq, x23_3, rfl, HA, HJ3, HB⟩ := hcut
     cases kq with
     | zero => exact absurd HA.out (by simp [palaverref01_Number.j1])
     | succ kj3 =>
      have H := HA.out
      clear HA
      simp only [palaverref01_Number.j1] at H
      by_cases c6 : x23_3 = true
      ·subst c6
       have H1 : (some ((⟨#[]⟩ : ByteArray), false)) = some (r1, r2) := by rw [if_pos rfl] at H; exact H
       clear H
       have H := H1
       clear H1
       simp only [Option.some.injEq, Prod.mk.injEq] at H
       obtain ⟨rfl, rfl⟩ := H
       go_wp2
       go_ret2
       exact ⟨by first | rfl | (simp [errW_none, errW_some] <;> rfl) | (simp [*, errW_none, errW_some] <;> rfl), by repeat (first | (with_reducible first | exact HB.out | apply below_alloc | apply pw_below_drewN | apply below_drew1) | exact HB.out)⟩
      ·replace c6 := Bool.eq_false_iff.mpr c6
       subst c6
       have H1 : (palaverref01_Number.l1 kj3 a0 a1 (⟨#[]⟩ : ByteArray) 0) = some (r1, r2) := by rw [if_neg (show ¬ (false = true) by decide)] at H; exact H
       clear H
       have H := H1
       clear H1
       have H' := Aside0.mk H
       clear H
       go_wp2
       go_loopg [0, 8, 9] kj3 (fun kq v0 v8 v9 w' => ∃ (x0_3 : Int) (x8_3 : ByteArray) (x9_3 : Int), v0 = .int .i64 x0_3 ∧ v8 = .string x8_3 ∧ v9 = .int .i64 x9_3 ∧ Aside0 (palaverref01_Number.l1 kq x0_3 a1 x8_3 x9_3 = some (r1, r2)) ∧ Aside0 (kq ≤ kj3) ∧ Aside0 (Below w.heap.size w w'))
       case atStart => exact ⟨(a0), ((⟨#[]⟩ : ByteArray)), (0), (by first | rfl | (simp; done) | (simp [*]; done) | exact congrArg Value.bool (nonempty_l _) | (refine congrArg (Value.int _) ?_; first | omega | (unfold Go.RowKit.wrap64; omega))), (by first | rfl | (simp; done) | (simp [*]; done) | exact congrArg Value.bool (nonempty_l _) | (refine congrArg (Value.int _) ?_; first | omega | (unfold Go.RowKit.wrap64; omega))), (by first | rfl | (simp; done) | (simp [*]; done) | exact congrArg Value.bool (nonempty_l _) | (refine congrArg (Value.int _) ?_; first | omega | (unfold Go.RowKit.wrap64; omega))), H', ⟨Nat.le_refl _⟩, ⟨by repeat (first | (with_reducible first | exact HB.out | apply below_alloc | apply pw_below_drewN | apply below_drew1) | exact HB.out)⟩⟩
       case round =>
        clear H'
        (try clear p2); (try clear c3); (try clear c3b0); (try clear c5); (try clear c5b0); (try clear c6); (try clear p6); (try clear p2)
        obtain ⟨x0_3, x8_3, x9_3, rfl, rfl, rfl, HA, HK3, HB⟩ := hrel
        cases gk with
        | zero => exact absurd HA.out (by simp [palaverref01_Number.l1])
        | succ k3 =>
         have H := HA.out
         clear HA
         simp only [palaverref01_Number.l1] at H
         by_cases c7 : x9_3 < a1
         ·rw [if_pos c7] at H
          have c7b0 : decide (x9_3 < a1) = true := decide_eq_true c7
          clear c7
          obtain ⟨y181, hy181⟩ : ∃ y_ : List Int, y_ = (([(Int.tmod x0_3 256) % 256] : List Int)) := ⟨_, rfl⟩
          replace H : (if (strOfNums y181).size + x8_3.size ≤ 9223372036854775807 then (palaverref01_Number.l1 k3 (wrap64 (Int.tdiv x0_3 256)) a1 ((strOfNums y181) ++ x8_3) (wrap64 (x9_3 + 1))) else (none)) = some (r1, r2) := by first | (rw [hy181]; with_reducible exact H) | (have H2_ := (Option.bind_some _ _).symm.trans H; rw [hy181]; with_reducible exact H2_) | (have H2_ := (Option.bind_some _ _).symm.trans H; with_reducible exact H2_) | with_reducible exact H | (rw [hy181]; exact H) | exact H
          have Ny181 := Aside0.mk hy181
          clear hy181
          by_cases c8 : (strOfNums y181).size + x8_3.size ≤ 9223372036854775807
          rotate_left
          ·rw [if_neg c8] at H
           exact absurd H (by simp)
          rw [if_pos c8] at H
          have c8b0 := eq_true c8
          have c8b1 : decide ((strOfNums y181).size + x8_3.size ≤ 9223372036854775807) = true := decide_eq_true c8
          try have c8b2 : (9223372036854775807 < (strOfNums y181).size + x8_3.size) = False := eq_false (Nat.not_lt.2 c8)
          have H' := Aside0.mk H
          clear H
          go_wp2_with (first | ((with_reducible refine gate_dst (N := 32) rfl ?_); refine Kd.R_lit (Kd.int .u8) _ 5 ?hg (N := 32) ?hd (xs := ([(Int.tmod x0_3 256) % 256] : List Int)) (inner := [.int .u8 ((Int.tmod x0_3 256) % 256)]) (ok := fun _ => True) (okp := fun _ => True) ?hr ?hp (fun _ hk => hk) trivial (Below.refl _ _) (Nat.le_refl _) (by simp) ?_; (case hd => rfl); (case hg => rfl); (case hr => first | (go_simp; done) | (go_simp; rfl)); (case hp => exact (Reps.one (show Kd.M (Kd.int .u8) _ _ _ ((Int.tmod x0_3 256) % 256) [.int .u8 ((Int.tmod x0_3 256) % 256)] from rfl) (Reps.none _ _))); intro v182 w9 ho10 hb hg_ hnew_; clear hg_ hnew_; (first | rw [← Ny181.out] at ho10 | (simp only [Int.reduceToNat] at ho10; rw [← Ny181.out] at ho10)); have n0_ := Aside0.mk (Kd.R_lower ho10 (below_size (by repeat (first | (with_reducible first | exact HB.out | apply below_alloc | apply pw_below_drewN | apply below_drew1) | exact HB.out)))); have n1_ := Aside0.mk (below_step (by repeat (first | (with_reducible first | exact HB.out | apply below_alloc | apply pw_below_drewN | apply below_drew1) | exact HB.out)) hb); clear HB; have HO183 := n0_; have HB := n1_; clear n0_ n1_; clear hb ho10; have hcv11 := own_string (P := Tryd.prog) Tryd.underlying53 Tryd.underlying5 Tryd.underlying9 (Kd.own_of_R HO183.out)))
          go_roundg k3
          case measure => have := HK1.out; have := HJ3.out; have := HK3.out; omega
          case rel => exact ⟨(wrap64 (Int.tdiv x0_3 256)), ((strOfNums y181) ++ x8_3), (wrap64 (x9_3 + 1)), (by first | rfl | (simp; done) | (simp [*]; done) | exact congrArg Value.bool (nonempty_l _) | (refine congrArg (Value.int _) ?_; first | omega | (unfold Go.RowKit.wrap64; omega))), (by first | rfl | (simp; done) | (simp [*]; done) | exact congrArg Value.bool (nonempty_l _) | (refine congrArg (Value.int _) ?_; first | omega | (unfold Go.RowKit.wrap64; omega))), (by first | rfl | (simp; done) | (simp [*]; done) | exact congrArg Value.bool (nonempty_l _) | (refine congrArg (Value.int _) ?_; first | omega | (unfold Go.RowKit.wrap64; omega))), H', ⟨by have := HK1.out; have := HJ3.out; have := HK3.out; omega⟩, ⟨by repeat (first | (with_reducible first | exact HB.out | apply below_alloc | apply pw_below_drewN | apply below_drew1) | exact HB.out)⟩⟩
         ·rw [if_neg c7] at H
          have c7b0 : decide (x9_3 < a1) = false := decide_eq_false c7
          clear c7
          simp only [Option.some.injEq, Prod.mk.injEq] at H
          obtain ⟨rfl, rfl⟩ := H
          go_wp2
          go_ret2
          exact ⟨by first | rfl | (simp [errW_none, errW_some] <;> rfl) | (simp [*, errW_none, errW_some] <;> rfl), by repeat (first | (with_reducible first | exact HB.out | apply below_alloc | apply pw_below_drewN | apply below_drew1) | exact HB.out)⟩

/-! ### palaverref02_Input: function 35 -/
def palaverref02_Input.l0 : Nat → List ByteArray → List Int → Int → Option (ByteArray)
 | 0, _, _, _ => none
 | k + 1, x1, x5, x6 => if x6 < (x1.length : Int) then (if 0 ≤ x6 then ((palaverref01_Number.f k ((rdOf ByteArray.empty x1 x6).size : Int) 4).bind fun bt188 => (if x5.length + bt188.1.size < 140737488355328 then ((some (x5 ++ bytesOf bt188.1 : List Int)).bind fun y190 => (if y190.length + (rdOf ByteArray.empty x1 x6).size < 140737488355328 then (palaverref02_Input.l0 k x1 (y190 ++ bytesOf (rdOf ByteArray.empty x1 x6)) (wrap64 (x6 + 1))) else (none))) else (none))) else (none)) else (some (strOfNums x5))
def palaverref02_Input.f (k : Nat) (a0 : Int) (l1 : List ByteArray) : Option (ByteArray) := palaverref02_Input.l0 k l1 (([(Int.tmod (wrap64 ((Int.tmod a0 256) + 256)) 256) % 256] : List Int)) 0
theorem palaverref02_Input.mono_l : ∀ k, (∀ y0 y1 y2, LeO (palaverref02_Input.l0 k y0 y1 y2) (palaverref02_Input.l0 (k + 1) y0 y1 y2))
 | 0 => fun _ _ _ r h => by simp [palaverref02_Input.l0] at h
 | k + 1 => by
  have ih0 := palaverref02_Input.mono_l k
  ·intro y0 y1 y2
   unfold palaverref02_Input.l0
   repeat' first
   | (with_reducible exact ih0 _ _ _)
   | (with_reducible exact palaverref01_Number.mono _ _ _)
   | (with_reducible exact LeO.refl _)
   | (with_reducible exact LeO.none _)
   | (with_reducible refine LeO.ite ?_ ?_)
   | (with_reducible refine LeO.bind ?_ (fun _ => ?_))
   | exact ih0 _ _ _
   | exact palaverref01_Number.mono _ _ _
   | exact LeO.none _
   | refine LeO.ite ?_ ?_
   | refine LeO.bind ?_ (fun _ => ?_)
theorem palaverref02_Input.mono : ∀ a0 a1 k, LeO (palaverref02_Input.f k a0 a1) (palaverref02_Input.f (k + 1) a0 a1) := by
 intro a0 a1 k
 have ih0 := palaverref02_Input.mono_l k
 unfold palaverref02_Input.f
 repeat' first
  | (with_reducible exact ih0 _ _ _)
  | (with_reducible exact palaverref01_Number.mono _ _ _)
  | (with_reducible exact LeO.refl _)
  | (with_reducible exact LeO.none _)
  | (with_reducible refine LeO.ite ?_ ?_)
  | (with_reducible refine LeO.bind ?_ (fun _ => ?_))
  | exact ih0 _ _ _
  | exact palaverref01_Number.mono _ _ _
  | exact LeO.none _
  | refine LeO.ite ?_ ?_
  | refine LeO.bind ?_ (fun _ => ?_)
set_option maxHeartbeats 64000000 in
set_option maxRecDepth 100000 in
theorem palaverref02_Input.calls (k : Nat) (a0 : Int) (A1 : Option Addr) (c1 : Nat) (l1 : List ByteArray) (r : ByteArray) (w : World) (hr1 : Kd.C Kd.string w A1 l1.length l1) (hc1 : l1.length ≤ c1) (h : palaverref02_Input.f k a0 l1 = some r) :
 Calls Tryd.prog 35 #[.int .i64 a0, .slice A1 l1.length c1] w fun e w' => e = .returned (.string r) ∧ Below w.heap.size w w' := by
 have HR1 := Aside0.mk hr1
 have HC1 := Aside0.mk hc1
 clear hr1 hc1
 have HB := Aside0.mk (Below.refl w.heap.size w)
 have H : (palaverref02_Input.l0 k l1 (([(Int.tmod (wrap64 ((Int.tmod a0 256) + 256)) 256) % 256] : List Int)) 0) = some r := h
 clear h
 obtain ⟨y184, hy184⟩ : ∃ y_ : List Int, y_ = (([(Int.tmod (wrap64 ((Int.tmod a0 256) + 256)) 256) % 256] : List Int)) := ⟨_, rfl⟩
 replace H : (palaverref02_Input.l0 k l1 y184 0) = some r := by first | (rw [hy184]; with_reducible exact H) | (have H2_ := (Option.bind_some _ _).symm.trans H; rw [hy184]; with_reducible exact H2_) | (have H2_ := (Option.bind_some _ _).symm.trans H; with_reducible exact H2_) | with_reducible exact H | (rw [hy184]; exact H) | exact H
 have Ny184 := Aside0.mk hy184
 clear hy184
 have H' := Aside0.mk H
 clear H
 go_enter Tryd.func35, Tryd.ntmps35
 go_wp2_with (first | ((with_reducible refine gate_dst (N := 14) rfl ?_); refine Kd.R_lit (Kd.int .u8) _ 5 ?hg (N := 14) ?hd (xs := ([(Int.tmod (wrap64 ((Int.tmod a0 256) + 256)) 256) % 256] : List Int)) (inner := [.int .u8 ((Int.tmod (wrap64 ((Int.tmod a0 256) + 256)) 256) % 256)]) (ok := fun _ => True) (okp := fun _ => True) ?hr ?hp (fun _ hk => hk) trivial (Below.refl _ _) (Nat.le_refl _) (by simp) ?_; (case hd => rfl); (case hg => rfl); (case hr => first | (go_simp; done) | (go_simp; rfl)); (case hp => exact (Reps.one (show Kd.M (Kd.int .u8) _ _ _ ((Int.tmod (wrap64 ((Int.tmod a0 256) + 256)) 256) % 256) [.int .u8 ((Int.tmod (wrap64 ((Int.tmod a0 256) + 256)) 256) % 256)] from rfl) (Reps.none _ _))); intro v185 w3 ho4 hb hg_ hnew_; clear hg_ hnew_; (first | rw [← Ny184.out] at ho4 | (simp only [Int.reduceToNat] at ho4; rw [← Ny184.out] at ho4)); have n0_ := Aside0.mk (Kd.R_lower ho4 (below_size (by repeat (first | (with_reducible first | exact HB.out | apply below_alloc | apply pw_below_drewN | apply below_drew1) | exact HB.out)))); have n1_ := Aside0.mk (below_step (by repeat (first | (with_reducible first | exact HB.out | apply below_alloc | apply pw_below_drewN | apply below_drew1) | exact HB.out)) hb); clear HB; have HO186 := n0_; have HB := n1_; clear n0_ n1_; clear hb ho4))
 go_loopg [5, 6] k (fun kq v5 v6 w' => ∃ (x5_1 : List Int) (x6_1 : Int), v6 = .int .i64 x6_1 ∧ Aside0 (palaverref02_Input.l0 kq l1 x5_1 x6_1 = some r) ∧ Aside0 (kq ≤ k) ∧ Aside0 (Kd.R (Kd.int .u8) 5 w' w.heap.size (fun _ => True) v5 x5_1) ∧ Aside0 (Below w.heap.size w w'))
 case atStart => exact ⟨(y184), (0), (by first | rfl | (simp; done) | (simp [*]; done) | exact congrArg Value.bool (nonempty_l _) | (refine congrArg (Value.int _) ?_; first | omega | (unfold Go.RowKit.wrap64; omega))), H', ⟨Nat.le_refl _⟩, ⟨by (with_reducible repeat (first | apply Kd.R_alloc | apply Kd.R_drewN | apply Kd.R_drew)); exact HO186.out⟩, ⟨by repeat (first | (with_reducible first | exact HB.out | apply below_alloc | apply pw_below_drewN | apply below_drew1) | exact HB.out)⟩⟩
 case round =>
  clear H'
  (try clear c1); (try clear p2); (try clear c3)
  obtain ⟨x5_1, x6_1, rfl, HA, HK1, HO_5, HB⟩ := hrel
  cases gk with
  | zero => exact absurd HA.out (by simp [palaverref02_Input.l0])
  | succ k1 =>
   have H := HA.out
   clear HA
   simp only [palaverref02_Input.l0] at H
   by_cases c5 : x6_1 < (l1.length : Int)
   ·rw [if_pos c5] at H
    have c5b0 : decide (x6_1 < (l1.length : Int)) = true := decide_eq_true c5
    clear c5
    by_cases c6 : 0 ≤ x6_1
    rotate_left
    ·rw [if_neg c6] at H
     exact absurd H (by simp)
    rw [if_pos c6] at H
    have c6b0 : decide (0 ≤ x6_1) = true := decide_eq_true c6
    clear c6
    replace H := Option.bind_eq_some_iff.mp H
    obtain ⟨⟨t188, t189⟩, A70, H⟩ := H
    replace H : (if x5_1.length + t188.size < 140737488355328 then ((some (x5_1 ++ bytesOf t188 : List Int)).bind fun y190 => (if y190.length + (rdOf ByteArray.empty l1 x6_1).size < 140737488355328 then (palaverref02_Input.l0 k1 l1 (y190 ++ bytesOf (rdOf ByteArray.empty l1 x6_1)) (wrap64 (x6_1 + 1))) else (none))) else (none)) = some r := H
    have A7 := Aside0.mk A70
    clear A70
    by_cases c8 : x5_1.length + t188.size < 140737488355328
    rotate_left
    ·rw [if_neg c8] at H
     exact absurd H (by simp)
    rw [if_pos c8] at H
    have LMc8 := Aside0.mk c8
    clear c8
    obtain ⟨y190, hy190⟩ : ∃ y_ : List Int, y_ = (x5_1 ++ bytesOf t188) := ⟨_, rfl⟩
    replace H : (if y190.length + (rdOf ByteArray.empty l1 x6_1).size < 140737488355328 then (palaverref02_Input.l0 k1 l1 (y190 ++ bytesOf (rdOf ByteArray.empty l1 x6_1)) (wrap64 (x6_1 + 1))) else (none)) = some r := by first | (rw [hy190]; with_reducible exact H) | (have H2_ := (Option.bind_some _ _).symm.trans H; rw [hy190]; with_reducible exact H2_) | (have H2_ := (Option.bind_some _ _).symm.trans H; with_reducible exact H2_) | with_reducible exact H | (rw [hy190]; exact H) | exact H
    have Ny190 := Aside0.mk hy190
    clear hy190
    by_cases c9 : y190.length + (rdOf ByteArray.empty l1 x6_1).size < 140737488355328
    rotate_left
    ·rw [if_neg c9] at H
     exact absurd H (by simp)
    rw [if_pos c9] at H
    have LMc9 := Aside0.mk c9
    clear c9
    obtain ⟨y194, hy194⟩ : ∃ y_ : List Int, y_ = (y190 ++ bytesOf (rdOf ByteArray.empty l1 x6_1)) := ⟨_, rfl⟩
    replace H : (palaverref02_Input.l0 k1 l1 y194 (wrap64 (x6_1 + 1))) = some r := by first | (rw [hy194]; with_reducible exact H) | (have H2_ := (Option.bind_some _ _).symm.trans H; rw [hy194]; with_reducible exact H2_) | (have H2_ := (Option.bind_some _ _).symm.trans H; with_reducible exact H2_) | with_reducible exact H | (rw [hy194]; exact H) | exact H
    have Ny194 := Aside0.mk hy194
    clear hy194
    have H' := Aside0.mk H
    clear H
    have p187 : 0 ≤ (x6_1 : Int) := of_decide_eq_true (by first | (with_reducible assumption) | assumption)
    have q187 : x6_1 < (l1.length : Int) := of_decide_eq_true (by first | (with_reducible assumption) | assumption)
    obtain ⟨ad187, e187, hx187_0⟩ := Kd.at_string HR1.out x6_1 p187 q187
    cases e187
    replace hx187_0 := (HB.out.cell (World.block_lt_of_cell? w _ hx187_0)).trans hx187_0
    replace p187 := eq_true p187
    replace q187 := eq_true q187
    go_wp2_with (first | ((with_reducible refine gate_callee (f := 32) rfl ?_); refine goesL_ (some 27) rfl rfl Tryd.func32 (by kernel_rfl) rfl #[.int .i64 ((rdOf ByteArray.empty l1 x6_1).size : Int), .int .i64 4] rfl (by (try simp only [List.map_toArray, List.map_cons, List.map_nil]); first | done | rfl | (simp only [List.length_drop, List.length_take]; rfl)) ?_; (with_reducible refine (palaverref01_Number.calls k1 ((rdOf ByteArray.empty l1 x6_1).size : Int) 4 t188 t189 _ A7.out).mono ?_); rintro e w10 ⟨rfl, hb⟩; refine ⟨_, rfl, ?_⟩; have n0_ := Aside0.mk (Kd.R_below (by (with_reducible repeat (first | apply Kd.R_alloc | apply Kd.R_drewN | apply Kd.R_drew)); exact HO_5.out) hb); have n1_ := Aside0.mk (below_step (by repeat (first | (with_reducible first | exact HB.out | apply below_alloc | apply pw_below_drewN | apply below_drew1) | exact HB.out)) hb); clear HO_5; clear HB; have HO_5 := n0_; have HB := n1_; clear n0_ n1_; (try clear hb); (try clear hb2); (try clear hk); (try clear hi)) | (at_builtin; refine print_append_str (w0 := w) w.heap.size rfl (.tmp 30) _ 53 9 5 rfl Tryd.underlying53 Tryd.underlying9 info5 u5 x5_1 t188 rfl rfl ?aO ?aB ?aS ?aL ?_; (case aB => exact (by repeat (first | (with_reducible first | exact HB.out | apply below_alloc | apply pw_below_drewN | apply below_drew1) | exact HB.out))); (case aO => exact (Kd.own_of_R (by (with_reducible repeat (first | apply Kd.R_alloc | apply Kd.R_drewN | apply Kd.R_drew)); exact HO_5.out))); (case aS => exact (below_size (by repeat (first | (with_reducible first | exact HB.out | apply below_alloc | apply pw_below_drewN | apply below_drew1) | exact HB.out)))); (case aL => have := LMc8.out; omega); intro v191 w11 ho0 hb hg; have ho := Kd.R_of_own (h1 := fun _ => rfl) (ok := fun _ => True) ho0 (fun _ _ => trivial); clear ho0; have hat := True.intro; rw [← Ny190.out] at ho; change Kd.R (Kd.int .u8) 5 w11 w.heap.size (fun _ => True) v191 y190 at ho; have n0_ := Aside0.mk (hb); have n1_ := Aside0.mk (ho); clear HB; clear HO_5; have HB := n0_; have HO192 := n1_; clear n0_ n1_; clear ho hb hg hat; have p193 : 0 ≤ (x6_1 : Int) := of_decide_eq_true (by first | (with_reducible assumption) | assumption); have q193 : x6_1 < (l1.length : Int) := of_decide_eq_true (by first | (with_reducible assumption) | assumption); obtain ⟨ad193, e193, hx193_0⟩ := Kd.at_string HR1.out x6_1 p193 q193; obtain rfl : ad187 = ad193 := (by injection e193); replace hx193_0 := (HB.out.cell (World.block_lt_of_cell? w _ hx193_0)).trans hx193_0; replace p193 := eq_true p193; replace q193 := eq_true q193) | (at_builtin; refine print_append_str (w0 := w) w.heap.size rfl (.tmp 33) _ 53 9 5 rfl Tryd.underlying53 Tryd.underlying9 info5 v191 y190 (rdOf ByteArray.empty l1 x6_1) rfl rfl ?aO ?aB ?aS ?aL ?_; (case aB => exact (by repeat (first | (with_reducible first | exact HB.out | apply below_alloc | apply pw_below_drewN | apply below_drew1) | exact HB.out))); (case aO => exact (Kd.own_of_R (by (with_reducible repeat (first | apply Kd.R_alloc | apply Kd.R_drewN | apply Kd.R_drew)); exact HO192.out))); (case aS => exact (below_size (by repeat (first | (with_reducible first | exact HB.out | apply below_alloc | apply pw_below_drewN | apply below_drew1) | exact HB.out)))); (case aL => have := LMc9.out; omega); intro v195 w12 ho0 hb hg; have ho := Kd.R_of_own (h1 := fun _ => rfl) (ok := fun _ => True) ho0 (fun _ _ => trivial); clear ho0; have hat := True.intro; rw [← Ny194.out] at ho; change Kd.R (Kd.int .u8) 5 w12 w.heap.size (fun _ => True) v195 y194 at ho; have n0_ := Aside0.mk (hb); have n1_ := Aside0.mk (ho); clear HB; clear HO192; have HB := n0_; have HO196 := n1_; clear n0_ n1_; clear ho hb hg hat))
    go_roundg k1
    case measure => have := HK1.out; omega
    case rel => exact ⟨(y194), (wrap64 (x6_1 + 1)), (by first | rfl | (simp; done) | (simp [*]; done) | exact congrArg Value.bool (nonempty_l _) | (refine congrArg (Value.int _) ?_; first | omega | (unfold Go.RowKit.wrap64; omega))), H', ⟨by have := HK1.out; omega⟩, ⟨by (with_reducible repeat (first | apply Kd.R_alloc | apply Kd.R_drewN | apply Kd.R_drew)); exact HO196.out⟩, ⟨by repeat (first | (with_reducible first | exact HB.out | apply below_alloc | apply pw_below_drewN | apply below_drew1) | exact HB.out)⟩⟩
   ·rw [if_neg c5] at H
    have c5b0 : decide (x6_1 < (l1.length : Int)) = false := decide_eq_false c5
    clear c5
    obtain rfl := Option.some.inj H
    have hcv13 := own_string (P := Tryd.prog) Tryd.underlying53 Tryd.underlying5 Tryd.underlying9 (Kd.own_of_R HO_5.out)
    go_wp2
    go_ret
    exact ⟨by first | rfl | (simp [errW_none, errW_some] <;> rfl) | (simp [*, errW_none, errW_some] <;> rfl), by repeat (first | (with_reducible first | exact HB.out | apply below_alloc | apply pw_below_drewN | apply below_drew1) | exact HB.out)⟩

/-! ### palaverref02_Starts: function 44 -/
def palaverref02_Starts.f : Option Unit := some ()
set_option maxHeartbeats 8000000 in
set_option maxRecDepth 100000 in
theorem palaverref02_Starts.calls (w : World) (h : palaverref02_Starts.f = some ()) :
    Calls Tryd.prog 44 #[] w fun e w' => e = .returned (.agg #[.int .u32 1779033703, .int .u32 3144134277, .int .u32 1013904242, .int .u32 2773480762, .int .u32 1359893119, .int .u32 2600822924, .int .u32 528734635, .int .u32 1541459225]) ∧ Below w.heap.size w w' := by
  go_enter Tryd.func44, Tryd.ntmps44
  go_wp2_with (first
    | ((with_reducible refine gate_dst (N := 0) rfl ?_); refine Kd.event_run (w1 := w.alloc (.cells (encs (Value.int .u32) (List.replicate 8 0)).toArray 63)) (v := .pointer (some ⟨w.heap.size, 0, none⟩)) ?hg ?hr ?_; (case hg => rfl); (case hr => first | (go_simp; done) | (go_simp; rfl)); obtain ⟨W1, hW1⟩ : ∃ W1, W1 = w.alloc (.cells (encs (Value.int .u32) (List.replicate 8 0)).toArray 63) := ⟨_, rfl⟩; rw [← hW1]; have hh : W1.heap[w.heap.size]? = some (.cells (encs (Value.int .u32) (List.replicate 8 0)).toArray 63 (0, 0)) := (by rw [hW1]; exact heap_alloc_new w _); have hb : Below w.heap.size w W1 := (by rw [hW1]; exact below_alloc (Below.refl _ _) _); clear hW1)
    | ((with_reducible refine gate_store (t := 63) (p := 0) rfl ?_); refine store_event (t := 63) (p := 0) (v := ?vo) (w1 := W1.setCells w.heap.size 0 (encs (Value.int .u32) [1779033703, 3144134277, 1013904242, 2773480762, 1359893119, 2600822924, 528734635, 1541459225])) ?hg ?ho ?hn ?hr ?_; (case ho => rfl); (case hg => rfl); (case hn => rfl); (case hr => exact store_run0 [1779033703, 3144134277, 1013904242, 2773480762, 1359893119, 2600822924, 528734635, 1541459225] rfl rfl rfl (by kernel_rfl) hh (by rfl)); intro W2 hw; have hh2 := store_heap0 (encs (Value.int .u32) [1779033703, 3144134277, 1013904242, 2773480762, 1359893119, 2600822924, 528734635, 1541459225]) hh (by rfl); have hb2 := store_below0 (encs (Value.int .u32) [1779033703, 3144134277, 1013904242, 2773480762, 1359893119, 2600822924, 528734635, 1541459225]) hb (Nat.le_refl _); rw [← hw] at hh2 hb2; clear hw hh hb))
  (try simp only [Exit.inBlock, Exit.then])
  refine bodyPost_ret (results_cell_row rfl _ _ w.heap.size 63 (encs (Value.int .u32) [1779033703, 3144134277, 1013904242, 2773480762, 1359893119, 2600822924, 528734635, 1541459225]).toArray (0, 0) _ rfl hh2 Tryd.underlying63 rfl (by kernel_rfl)) rfl ?_
  exact ⟨rfl, hb2⟩

/-! ### palaverref02_table: function 45 -/
def palaverref02_table.f : Option Unit := some ()
set_option maxHeartbeats 8000000 in
set_option maxRecDepth 100000 in
theorem palaverref02_table.calls (w : World) (h : palaverref02_table.f = some ()) :
    Calls Tryd.prog 45 #[] w fun e w' => e = .returned (.agg #[.int .u32 1116352408, .int .u32 1899447441, .int .u32 3049323471, .int .u32 3921009573, .int .u32 961987163, .int .u32 1508970993, .int .u32 2453635748, .int .u32 2870763221, .int .u32 3624381080, .int .u32 310598401, .int .u32 607225278, .int .u32 1426881987, .int .u32 1925078388, .int .u32 2162078206, .int .u32 2614888103, .int .u32 3248222580, .int .u32 3835390401, .int .u32 4022224774, .int .u32 264347078, .int .u32 604807628, .int .u32 770255983, .int .u32 1249150122, .int .u32 1555081692, .int .u32 1996064986, .int .u32 2554220882, .int .u32 2821834349, .int .u32 2952996808, .int .u32 3210313671, .int .u32 3336571891, .int .u32 3584528711, .int .u32 113926993, .int .u32 338241895, .int .u32 666307205, .int .u32 773529912, .int .u32 1294757372, .int .u32 1396182291, .int .u32 1695183700, .int .u32 1986661051, .int .u32 2177026350, .int .u32 2456956037, .int .u32 2730485921, .int .u32 2820302411, .int .u32 3259730800, .int .u32 3345764771, .int .u32 3516065817, .int .u32 3600352804, .int .u32 4094571909, .int .u32 275423344, .int .u32 430227734, .int .u32 506948616, .int .u32 659060556, .int .u32 883997877, .int .u32 958139571, .int .u32 1322822218, .int .u32 1537002063, .int .u32 1747873779, .int .u32 1955562222, .int .u32 2024104815, .int .u32 2227730452, .int .u32 2361852424, .int .u32 2428436474, .int .u32 2756734187, .int .u32 3204031479, .int .u32 3329325298]) ∧ Below w.heap.size w w' := by
  go_enter Tryd.func45, Tryd.ntmps45
  go_wp2_with (first
    | ((with_reducible refine gate_dst (N := 0) rfl ?_); refine Kd.event_run (w1 := w.alloc (.cells (encs (Value.int .u32) (List.replicate 64 0)).toArray 65)) (v := .pointer (some ⟨w.heap.size, 0, none⟩)) ?hg ?hr ?_; (case hg => rfl); (case hr => first | (go_simp; done) | (go_simp; rfl)); obtain ⟨W1, hW1⟩ : ∃ W1, W1 = w.alloc (.cells (encs (Value.int .u32) (List.replicate 64 0)).toArray 65) := ⟨_, rfl⟩; rw [← hW1]; have hh : W1.heap[w.heap.size]? = some (.cells (encs (Value.int .u32) (List.replicate 64 0)).toArray 65 (0, 0)) := (by rw [hW1]; exact heap_alloc_new w _); have hb : Below w.heap.size w W1 := (by rw [hW1]; exact below_alloc (Below.refl _ _) _); clear hW1)
    | ((with_reducible refine gate_store (t := 65) (p := 0) rfl ?_); refine store_event (t := 65) (p := 0) (v := ?vo) (w1 := W1.setCells w.heap.size 0 (encs (Value.int .u32) [1116352408, 1899447441, 3049323471, 3921009573, 961987163, 1508970993, 2453635748, 2870763221, 3624381080, 310598401, 607225278, 1426881987, 1925078388, 2162078206, 2614888103, 3248222580, 3835390401, 4022224774, 264347078, 604807628, 770255983, 1249150122, 1555081692, 1996064986, 2554220882, 2821834349, 2952996808, 3210313671, 3336571891, 3584528711, 113926993, 338241895, 666307205, 773529912, 1294757372, 1396182291, 1695183700, 1986661051, 2177026350, 2456956037, 2730485921, 2820302411, 3259730800, 3345764771, 3516065817, 3600352804, 4094571909, 275423344, 430227734, 506948616, 659060556, 883997877, 958139571, 1322822218, 1537002063, 1747873779, 1955562222, 2024104815, 2227730452, 2361852424, 2428436474, 2756734187, 3204031479, 3329325298])) ?hg ?ho ?hn ?hr ?_; (case ho => rfl); (case hg => rfl); (case hn => rfl); (case hr => exact store_run0 [1116352408, 1899447441, 3049323471, 3921009573, 961987163, 1508970993, 2453635748, 2870763221, 3624381080, 310598401, 607225278, 1426881987, 1925078388, 2162078206, 2614888103, 3248222580, 3835390401, 4022224774, 264347078, 604807628, 770255983, 1249150122, 1555081692, 1996064986, 2554220882, 2821834349, 2952996808, 3210313671, 3336571891, 3584528711, 113926993, 338241895, 666307205, 773529912, 1294757372, 1396182291, 1695183700, 1986661051, 2177026350, 2456956037, 2730485921, 2820302411, 3259730800, 3345764771, 3516065817, 3600352804, 4094571909, 275423344, 430227734, 506948616, 659060556, 883997877, 958139571, 1322822218, 1537002063, 1747873779, 1955562222, 2024104815, 2227730452, 2361852424, 2428436474, 2756734187, 3204031479, 3329325298] rfl rfl rfl (by kernel_rfl) hh (by rfl)); intro W2 hw; have hh2 := store_heap0 (encs (Value.int .u32) [1116352408, 1899447441, 3049323471, 3921009573, 961987163, 1508970993, 2453635748, 2870763221, 3624381080, 310598401, 607225278, 1426881987, 1925078388, 2162078206, 2614888103, 3248222580, 3835390401, 4022224774, 264347078, 604807628, 770255983, 1249150122, 1555081692, 1996064986, 2554220882, 2821834349, 2952996808, 3210313671, 3336571891, 3584528711, 113926993, 338241895, 666307205, 773529912, 1294757372, 1396182291, 1695183700, 1986661051, 2177026350, 2456956037, 2730485921, 2820302411, 3259730800, 3345764771, 3516065817, 3600352804, 4094571909, 275423344, 430227734, 506948616, 659060556, 883997877, 958139571, 1322822218, 1537002063, 1747873779, 1955562222, 2024104815, 2227730452, 2361852424, 2428436474, 2756734187, 3204031479, 3329325298]) hh (by rfl); have hb2 := store_below0 (encs (Value.int .u32) [1116352408, 1899447441, 3049323471, 3921009573, 961987163, 1508970993, 2453635748, 2870763221, 3624381080, 310598401, 607225278, 1426881987, 1925078388, 2162078206, 2614888103, 3248222580, 3835390401, 4022224774, 264347078, 604807628, 770255983, 1249150122, 1555081692, 1996064986, 2554220882, 2821834349, 2952996808, 3210313671, 3336571891, 3584528711, 113926993, 338241895, 666307205, 773529912, 1294757372, 1396182291, 1695183700, 1986661051, 2177026350, 2456956037, 2730485921, 2820302411, 3259730800, 3345764771, 3516065817, 3600352804, 4094571909, 275423344, 430227734, 506948616, 659060556, 883997877, 958139571, 1322822218, 1537002063, 1747873779, 1955562222, 2024104815, 2227730452, 2361852424, 2428436474, 2756734187, 3204031479, 3329325298]) hb (Nat.le_refl _); rw [← hw] at hh2 hb2; clear hw hh hb))
  (try simp only [Exit.inBlock, Exit.then])
  refine bodyPost_ret (results_cell_row rfl _ _ w.heap.size 65 (encs (Value.int .u32) [1116352408, 1899447441, 3049323471, 3921009573, 961987163, 1508970993, 2453635748, 2870763221, 3624381080, 310598401, 607225278, 1426881987, 1925078388, 2162078206, 2614888103, 3248222580, 3835390401, 4022224774, 264347078, 604807628, 770255983, 1249150122, 1555081692, 1996064986, 2554220882, 2821834349, 2952996808, 3210313671, 3336571891, 3584528711, 113926993, 338241895, 666307205, 773529912, 1294757372, 1396182291, 1695183700, 1986661051, 2177026350, 2456956037, 2730485921, 2820302411, 3259730800, 3345764771, 3516065817, 3600352804, 4094571909, 275423344, 430227734, 506948616, 659060556, 883997877, 958139571, 1322822218, 1537002063, 1747873779, 1955562222, 2024104815, 2227730452, 2361852424, 2428436474, 2756734187, 3204031479, 3329325298]).toArray (0, 0) _ rfl hh2 Tryd.underlying65 rfl (by kernel_rfl)) rfl ?_
  exact ⟨rfl, hb2⟩

end Go.Proofs.YtkdbobccchkdjaaDoor.PP
