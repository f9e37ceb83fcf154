-- WRITTEN BY a program of this work (wip/ownprint.py), for this seat
import Derived.Test.YtmedpnclkbkiiaaDoorPPx0
import Derived.Test.YtmedpnclkbkiiaaDoorPPx2
import Derived.Test.YtmedpnclkbkiiaaDoorPPx3
namespace Go.Proofs.YtmedpnclkbkiiaaDoor.PP
open Go.RowKit Go.Proofs.YtmedpnclkbkiiaaDoorW.PrintWords Go.Proofs.YtmedpnclkbkiiaaDoorW.PrintLast Go.Proofs.YtmedpnclkbkiiaaDoorW.PrintMore
attribute [local go_sem] max2_int min2_int max_two min_two max_three min_three max_four min_four   -- for this text's walks alone
set_option linter.unusedVariables false
set_option linter.unusedSimpArgs false

/-! ### sha_Sum: function 51 -/
mutual
def sha_Sum.l0 : Nat → ByteArray → List Int → Int → Option (ByteArray)
 | 0, _, _, _ => none
 | k + 1, x0, x3, x4 => if (x0.size : Int) ≥ 64 then (if 0 ≤ 64 then (if 64 ≤ (x0.size : Int) then ((sha_state_block.f k x3 (x0.extract 0 64)).bind fun t159 => (sha_Sum.l0 k (x0.extract 64 x0.size) t159 x4)) else (none)) else (none)) else ((some (List.replicate 128 0 : List Int)).bind fun y160 => (if y160.length = 128 then (if 0 < (y160.length : Int) then (if x0.size ≤ y160.length then ((some (bytesOf x0 ++ y160.drop x0.size : List Int)).bind fun y163 => (if (x0.size : Int) ≥ 56 then (sha_Sum.j1 k x0 x3 x4 y163 128) else (sha_Sum.j1 k x0 x3 x4 y163 64))) else (none)) else (none)) else (none)))
def sha_Sum.j1 : Nat → ByteArray → List Int → Int → List Int → Int → Option (ByteArray)
 | 0, _, _, _, _, _ => none
 | k + 1, x0, x3, x4, x5, x6 => if x5.length = 128 then (if 0 ≤ (x0.size : Int) then (if (x0.size : Int) < (x5.length : Int) then (sha_Sum.l1 k x3 x4 (x5.set ((x0.size : Int) : Int).toNat 128) x6 0) else (none)) else (none)) else (none)
def sha_Sum.l1 : Nat → List Int → Int → List Int → Int → Int → Option (ByteArray)
 | 0, _, _, _, _, _ => none
 | k + 1, x3, x4, x5, x6, x31 => if x31 < 8 then (if 0 ≤ (wrap64 (8 * x31)) then (if x5.length = 128 then (if 0 ≤ (wrap64 ((wrap64 (x6 - 1)) - x31)) then (if (wrap64 ((wrap64 (x6 - 1)) - x31)) < (x5.length : Int) then (sha_Sum.l1 k x3 x4 (x5.set ((wrap64 ((wrap64 (x6 - 1)) - x31)) : Int).toNat ((shr .u64 x4 (wrap64 (8 * x31))) % 256)) x6 (wrap64 (x31 + 1))) else (none)) else (none)) else (none)) else (none)) else (if x5.length = 128 then (if 0 ≤ x6 then (if x6 ≤ 128 then (if 0 < (x5.length : Int) then (sha_Sum.l2 k x3 (strOfNums (x5.take (x6 : Int).toNat))) else (none)) else (none)) else (none)) else (none))
def sha_Sum.l2 : Nat → List Int → ByteArray → Option (ByteArray)
 | 0, _, _ => none
 | k + 1, x3, x8 => if x8.toList = ([] : List UInt8) then (sha_Sum.l3 k x3 (List.replicate 32 0) 0) else (if 0 ≤ 64 then (if 64 ≤ (x8.size : Int) then ((sha_state_block.f k x3 (x8.extract 0 64)).bind fun t166 => (sha_Sum.l2 k t166 (x8.extract 64 x8.size))) else (none)) else (none))
def sha_Sum.l3 : Nat → List Int → List Int → Int → Option (ByteArray)
 | 0, _, _, _ => none
 | k + 1, x3, x9, x55 => if x55 < 32 then (if x3.length = 8 then (if 0 ≤ (wrap64 (Int.tdiv x55 4)) then (if (wrap64 (Int.tdiv x55 4)) < (x3.length : Int) then (if 0 ≤ (wrap64 (24 - (wrap64 (8 * (Int.tmod x55 4))))) then (if x9.length = 32 then (if 0 ≤ x55 then (if x55 < (x9.length : Int) then (sha_Sum.l3 k x3 (x9.set (x55 : Int).toNat ((shr .u32 (rd x3 (wrap64 (Int.tdiv x55 4))) (wrap64 (24 - (wrap64 (8 * (Int.tmod x55 4)))))) % 256)) (wrap64 (x55 + 1))) else (none)) else (none)) else (none)) else (none)) else (none)) else (none)) else (none)) else (if x9.length = 32 then (if 0 < (x9.length : Int) then (some (strOfNums (x9.take 32))) else (none)) else (none))
end
def sha_Sum.f (k : Nat) (a0 : ByteArray) : Option (ByteArray) := (sha_begin.f).bind fun _ => ((some (List.replicate 8 0 : List Int)).bind fun y155 => (if y155.length = 8 then (if 0 < (y155.length : Int) then (sha_Sum.l0 k a0 ([1779033703, 3144134277, 1013904242, 2773480762, 1359893119, 2600822924, 528734635, 1541459225]) (IntKind.u64.wrap ((IntKind.u64.wrap ((a0.size : Int))) * 8))) else (none)) else (none)))
theorem sha_Sum.mono_l : ∀ k, (∀ y0 y1 y2, LeO (sha_Sum.l0 k y0 y1 y2) (sha_Sum.l0 (k + 1) y0 y1 y2)) ∧ (∀ y0 y1 y2 y3 y4, LeO (sha_Sum.j1 k y0 y1 y2 y3 y4) (sha_Sum.j1 (k + 1) y0 y1 y2 y3 y4)) ∧ (∀ y0 y1 y2 y3 y4, LeO (sha_Sum.l1 k y0 y1 y2 y3 y4) (sha_Sum.l1 (k + 1) y0 y1 y2 y3 y4)) ∧ (∀ y0 y1, LeO (sha_Sum.l2 k y0 y1) (sha_Sum.l2 (k + 1) y0 y1)) ∧ (∀ y0 y1 y2, LeO (sha_Sum.l3 k y0 y1 y2) (sha_Sum.l3 (k + 1) y0 y1 y2))
 | 0 => ⟨fun _ _ _ r h => by simp [sha_Sum.l0] at h, fun _ _ _ _ _ r h => by simp [sha_Sum.j1] at h, fun _ _ _ _ _ r h => by simp [sha_Sum.l1] at h, fun _ _ r h => by simp [sha_Sum.l2] at h, fun _ _ _ r h => by simp [sha_Sum.l3] at h⟩
 | k + 1 => by
  obtain ⟨ih0, ih1, ih2, ih3, ih4⟩ := sha_Sum.mono_l k
  refine ⟨?_, ?_, ?_, ?_, ?_⟩
  ·intro y0 y1 y2
   unfold sha_Sum.l0
   repeat' first
   | (with_reducible exact ih0 _ _ _)
   | (with_reducible exact ih1 _ _ _ _ _)
   | (with_reducible exact ih2 _ _ _ _ _)
   | (with_reducible exact ih3 _ _)
   | (with_reducible exact ih4 _ _ _)
   | (with_reducible exact sha_state_block.mono _ _ _)
   | (with_reducible exact LeO.refl _)
   | (with_reducible exact LeO.none _)
   | (with_reducible refine LeO.ite ?_ ?_)
   | (with_reducible refine LeO.bind ?_ (fun _ => ?_))
   | exact ih0 _ _ _
   | exact ih1 _ _ _ _ _
   | exact ih2 _ _ _ _ _
   | exact ih3 _ _
   | exact ih4 _ _ _
   | exact sha_state_block.mono _ _ _
   | exact LeO.none _
   | refine LeO.ite ?_ ?_
   | refine LeO.bind ?_ (fun _ => ?_)
  ·intro y0 y1 y2 y3 y4
   unfold sha_Sum.j1
   repeat' first
   | (with_reducible exact ih0 _ _ _)
   | (with_reducible exact ih1 _ _ _ _ _)
   | (with_reducible exact ih2 _ _ _ _ _)
   | (with_reducible exact ih3 _ _)
   | (with_reducible exact ih4 _ _ _)
   | (with_reducible exact sha_state_block.mono _ _ _)
   | (with_reducible exact LeO.refl _)
   | (with_reducible exact LeO.none _)
   | (with_reducible refine LeO.ite ?_ ?_)
   | (with_reducible refine LeO.bind ?_ (fun _ => ?_))
   | exact ih0 _ _ _
   | exact ih1 _ _ _ _ _
   | exact ih2 _ _ _ _ _
   | exact ih3 _ _
   | exact ih4 _ _ _
   | exact sha_state_block.mono _ _ _
   | exact LeO.none _
   | refine LeO.ite ?_ ?_
   | refine LeO.bind ?_ (fun _ => ?_)
  ·intro y0 y1 y2 y3 y4
   unfold sha_Sum.l1
   repeat' first
   | (with_reducible exact ih0 _ _ _)
   | (with_reducible exact ih1 _ _ _ _ _)
   | (with_reducible exact ih2 _ _ _ _ _)
   | (with_reducible exact ih3 _ _)
   | (with_reducible exact ih4 _ _ _)
   | (with_reducible exact sha_state_block.mono _ _ _)
   | (with_reducible exact LeO.refl _)
   | (with_reducible exact LeO.none _)
   | (with_reducible refine LeO.ite ?_ ?_)
   | (with_reducible refine LeO.bind ?_ (fun _ => ?_))
   | exact ih0 _ _ _
   | exact ih1 _ _ _ _ _
   | exact ih2 _ _ _ _ _
   | exact ih3 _ _
   | exact ih4 _ _ _
   | exact sha_state_block.mono _ _ _
   | exact LeO.none _
   | refine LeO.ite ?_ ?_
   | refine LeO.bind ?_ (fun _ => ?_)
  ·intro y0 y1
   unfold sha_Sum.l2
   repeat' first
   | (with_reducible exact ih0 _ _ _)
   | (with_reducible exact ih1 _ _ _ _ _)
   | (with_reducible exact ih2 _ _ _ _ _)
   | (with_reducible exact ih3 _ _)
   | (with_reducible exact ih4 _ _ _)
   | (with_reducible exact sha_state_block.mono _ _ _)
   | (with_reducible exact LeO.refl _)
   | (with_reducible exact LeO.none _)
   | (with_reducible refine LeO.ite ?_ ?_)
   | (with_reducible refine LeO.bind ?_ (fun _ => ?_))
   | exact ih0 _ _ _
   | exact ih1 _ _ _ _ _
   | exact ih2 _ _ _ _ _
   | exact ih3 _ _
   | exact ih4 _ _ _
   | exact sha_state_block.mono _ _ _
   | exact LeO.none _
   | refine LeO.ite ?_ ?_
   | refine LeO.bind ?_ (fun _ => ?_)
  intro y0 y1 y2
  unfold sha_Sum.l3
  repeat' first
  | (with_reducible exact ih0 _ _ _)
  | (with_reducible exact ih1 _ _ _ _ _)
  | (with_reducible exact ih2 _ _ _ _ _)
  | (with_reducible exact ih3 _ _)
  | (with_reducible exact ih4 _ _ _)
  | (with_reducible exact sha_state_block.mono _ _ _)
  | (with_reducible exact LeO.refl _)
  | (with_reducible exact LeO.none _)
  | (with_reducible refine LeO.ite ?_ ?_)
  | (with_reducible refine LeO.bind ?_ (fun _ => ?_))
  | exact ih0 _ _ _
  | exact ih1 _ _ _ _ _
  | exact ih2 _ _ _ _ _
  | exact ih3 _ _
  | exact ih4 _ _ _
  | exact sha_state_block.mono _ _ _
  | exact LeO.none _
  | refine LeO.ite ?_ ?_
  | refine LeO.bind ?_ (fun _ => ?_)
theorem sha_Sum.mono : ∀ a0 k, LeO (sha_Sum.f k a0) (sha_Sum.f (k + 1) a0) := by
 intro a0 k
 obtain ⟨ih0, ih1, ih2, ih3, ih4⟩ := sha_Sum.mono_l k
 unfold sha_Sum.f
 repeat' first
  | (with_reducible exact ih0 _ _ _)
  | (with_reducible exact ih1 _ _ _ _ _)
  | (with_reducible exact ih2 _ _ _ _ _)
  | (with_reducible exact ih3 _ _)
  | (with_reducible exact ih4 _ _ _)
  | (with_reducible exact sha_state_block.mono _ _ _)
  | (with_reducible exact LeO.refl _)
  | (with_reducible exact LeO.none _)
  | (with_reducible refine LeO.ite ?_ ?_)
  | (with_reducible refine LeO.bind ?_ (fun _ => ?_))
  | exact ih0 _ _ _
  | exact ih1 _ _ _ _ _
  | exact ih2 _ _ _ _ _
  | exact ih3 _ _
  | exact ih4 _ _ _
  | exact sha_state_block.mono _ _ _
  | exact LeO.none _
  | refine LeO.ite ?_ ?_
  | refine LeO.bind ?_ (fun _ => ?_)
set_option maxHeartbeats 64000000 in
set_option maxRecDepth 100000 in
theorem sha_Sum.calls (k : Nat) (a0 : ByteArray) (r : ByteArray) (w : World) (hrG : Kd.C (Kd.int .u32) w (some ⟨0, 0, none⟩) keysL.length keysL) (h : sha_Sum.f k a0 = some r) :
 Calls Tryd.prog 51 #[.string a0] w fun e w' => e = .returned (.string r) ∧ Below w.heap.size w w' := by
 have hu106 := Tryd.underlying106
 have hu110 := Tryd.underlying110
 have HRG := Aside0.mk hrG
 clear hrG
 have HB := Aside0.mk (Below.refl w.heap.size w)
 have H : ((sha_begin.f).bind fun _ => ((some (List.replicate 8 0 : List Int)).bind fun y155 => (if y155.length = 8 then (if 0 < (y155.length : Int) then (sha_Sum.l0 k a0 ([1779033703, 3144134277, 1013904242, 2773480762, 1359893119, 2600822924, 528734635, 1541459225]) (IntKind.u64.wrap ((IntKind.u64.wrap ((a0.size : Int))) * 8))) else (none)) else (none)))) = some r := h
 clear h
 replace H := ob_ H
 obtain ⟨_, A20, H⟩ := H
 replace H : ((some (List.replicate 8 0 : List Int)).bind fun y155 => (if y155.length = 8 then (if 0 < (y155.length : Int) then (sha_Sum.l0 k a0 ([1779033703, 3144134277, 1013904242, 2773480762, 1359893119, 2600822924, 528734635, 1541459225]) (IntKind.u64.wrap ((IntKind.u64.wrap ((a0.size : Int))) * 8))) else (none)) else (none))) = some r := H
 have A2 := Aside0.mk A20
 clear A20
 obtain ⟨y155, hy155⟩ : ∃ y_ : List Int, y_ = (List.replicate 8 0) := ⟨_, rfl⟩
 replace H : (if y155.length = 8 then (if 0 < (y155.length : Int) then (sha_Sum.l0 k a0 ([1779033703, 3144134277, 1013904242, 2773480762, 1359893119, 2600822924, 528734635, 1541459225]) (IntKind.u64.wrap ((IntKind.u64.wrap ((a0.size : Int))) * 8))) else (none)) else (none)) = some r := by first | (rw [hy155]; with_reducible exact H) | (have H2_ := (Option.bind_some _ _).symm.trans H; rw [hy155]; with_reducible exact H2_) | (have H2_ := (Option.bind_some _ _).symm.trans H; with_reducible exact H2_) | with_reducible exact H | (rw [hy155]; exact H) | exact H
 have Ny155 := Aside0.mk hy155
 clear hy155
 by_cases c3 : y155.length = 8
 rotate_left
 ·rw [if_neg c3] at H
  exact absurd H (by simp)
 rw [if_pos c3] at H
 have c3b0 := eq_true c3
 have c3b1 : decide (y155.length = 8) = true := decide_eq_true c3
 clear c3
 by_cases c4 : 0 < (y155.length : Int)
 rotate_left
 ·rw [if_neg c4] at H
  exact absurd H (by simp)
 rw [if_pos c4] at H
 have c4b0 : decide (0 < (y155.length : Int)) = true := decide_eq_true c4
 have c4b1 : decide (0 < y155.length) = true := decide_eq_true (by omega)
 clear c4
 obtain ⟨y158, hy158⟩ : ∃ y_ : List Int, y_ = ([1779033703, 3144134277, 1013904242, 2773480762, 1359893119, 2600822924, 528734635, 1541459225]) := ⟨_, rfl⟩
 replace H : (sha_Sum.l0 k a0 y158 (IntKind.u64.wrap ((IntKind.u64.wrap ((a0.size : Int))) * 8))) = some r := by first | (rw [hy158]; with_reducible exact H) | (have H2_ := (Option.bind_some _ _).symm.trans H; rw [hy158]; with_reducible exact H2_) | (have H2_ := (Option.bind_some _ _).symm.trans H; with_reducible exact H2_) | with_reducible exact H | (rw [hy158]; exact H) | exact H
 have Ny158 := Aside0.mk hy158
 clear hy158
 have H' := Aside0.mk H
 clear H
 go_enter Tryd.func51, Tryd.ntmps51
 go_wp2_with (first | ((with_reducible refine gate_callee (f := 72) rfl ?_); refine goesL_ (some 11) rfl rfl Tryd.func72 (by kernel_rfl) rfl #[] rfl (by (try simp only [gm_]); first | done | rfl | (simp only [gl_]; rfl)) ?_; (with_reducible refine (sha_begin.calls   _ A2.out).mono ?_); rintro e w6 ⟨rfl, hb⟩; refine ⟨_, rfl, ?_⟩; have n0_ := Aside0.mk (below_step (by repeat (first | (with_reducible first | exact HB.out | apply lA_ | apply lN_ | apply lD_) | exact HB.out)) hb); clear HB; have HB := n0_; clear n0_; (try clear hb); (try clear hb2); (try clear hk); (try clear hi)) | ((with_reducible refine gate_dst (N := 3) rfl ?_); refine R_arr (Value.int .u32) (fun _ => rfl) _ 106 ?hg (N := 3) ?hd (List.replicate 8 0) ?hr (Below.refl _ _) (Nat.le_refl _) (by decide) ?_; (case hd => rfl); (case hg => rfl); (case hr => first | (go_simp; done) | (go_simp; rfl)); intro v156 w7 ho8 hb hg_ hnew_; clear hg_ hnew_; (first | rw [← Ny155.out] at ho8 | (simp only [Int.reduceToNat] at ho8; rw [← Ny155.out] at ho8)); have n0_ := Aside0.mk (Kd.R_lower ho8 (below_size (by repeat (first | (with_reducible first | exact HB.out | apply lA_ | apply lN_ | apply lD_) | exact HB.out)))); have n1_ := Aside0.mk (below_step (by repeat (first | (with_reducible first | exact HB.out | apply lA_ | apply lN_ | apply lD_) | exact HB.out)) hb); clear HB; have HO157 := n0_; have HB := n1_; clear n0_ n1_; clear hb ho8; have qa5 : ((0 : Int) < (8 : Int)) = True := eq_true (by have e_ : y155.length = 8 := od_ (by first | (with_reducible assumption) | assumption); have h_ : (0 : Int) < ((y155.length : Int) : Int) := od_ (by first | (with_reducible assumption) | assumption); omega); have p5 : 0 ≤ (0 : Int) := (by omega); have q5 : (0 : Int) < ((y155.length : Int) : Int) := od_ (by first | (with_reducible assumption) | assumption); have qi5 : (0 < y155.length) = True := eq_true (by omega); obtain ⟨go5, co5, eo5, gb5, gl5, cl5, HG5⟩ := Kd.R_form HO157.out (by omega); (first | cases eo5 | (injection eo5 with ea_ en_ ec_; (first | subst ea_ | (injection ea_ with ea_; subst ea_)); subst ec_; clear en_)); have GB5 := Aside0.mk gb5; have GG5 := Aside0.mk HG5; clear gb5 gl5 HG5; obtain ⟨hx5_0, hf5_0⟩ := Kd.R_celln 0 HO157.out (0 : Int) p5 q5; (try rw [show ((0 : Int)).toNat = 0 from rfl] at hx5_0); (try simp only [Nat.reduceMul, Nat.zero_mul, Nat.zero_add, Nat.reduceAdd] at hx5_0); (try rw [show ((0 : Int)).toNat = 0 from rfl] at hf5_0); (try simp only [Nat.reduceMul, Nat.zero_mul, Nat.zero_add, Nat.reduceAdd] at hf5_0); replace p5 := eq_true p5; replace q5 := eq_true q5; have HP9 := R_whole (ys := [1779033703, 3144134277, 1013904242, 2773480762, 1359893119, 2600822924, 528734635, 1541459225]) HO157.out (by have e_ : y155.length = 8 := od_ (by first | (with_reducible assumption) | assumption); have e2_ := (Kd.R_reads' HO157.out).1; first | (rw [e_]; rfl) | (simp only [List.length_cons, List.length_nil]; omega))) | ((with_reducible refine gate_store (t := 106) (p := 3) rfl ?_); refine store_event (t := 106) (p := 3) (v := ?vo_w10) (w1 := (w7.setCells go5 0 (encs (Value.int .u32) [1779033703, 3144134277, 1013904242, 2773480762, 1359893119, 2600822924, 528734635, 1541459225]))) ?hg ?ho ?hn ?hr ?_; (case ho => rfl); (case hg => rfl); (case hn => rfl); (case hr => exact whole_run (ys := [1779033703, 3144134277, 1013904242, 2773480762, 1359893119, 2600822924, 528734635, 1541459225]) rfl rfl rfl (by kernel_rfl) HO157.out (by have e_ : y155.length = 8 := od_ (by first | (with_reducible assumption) | assumption); have e2_ := (Kd.R_reads' HO157.out).1; first | (rw [e_]; rfl) | (simp only [List.length_cons, List.length_nil]; omega))); intro w10 hw; have hg : w7.grownBy w10 (some go5) := (by rw [hw]; exact HP9.2); have hp_ : Kd.R (Kd.int .u32) 106 w10 w.heap.size (fun _ => True) (.slice (some ⟨go5, 0, none⟩) y155.length co5) y158 := (by rw [hw, Ny158.out]; exact HP9.1); clear HP9; have n0_ := Aside0.mk (hp_); have n1_ := Aside0.mk ((Below.grown HB.out hg (below_size HB.out) (fun k_ e_ => (Option.some.inj e_) ▸ GB5.out) : Below w.heap.size w w10)); clear HO157; clear HB; have HO157 := n0_; have HB := n1_; clear n0_ n1_; clear hg hw hp_))
 go_loopg [0] k (fun kq v0 w' => ∃ (x0_1 : ByteArray) (x3_1 : List Int), v0 = .string x0_1 ∧ Aside0 (sha_Sum.l0 kq x0_1 x3_1 (IntKind.u64.wrap ((IntKind.u64.wrap ((a0.size : Int))) * 8)) = some r) ∧ Aside0 (kq ≤ k) ∧ Aside0 (Kd.R (Kd.int .u32) 106 w' w.heap.size (fun _ => True) (.slice (some ⟨go5, 0, none⟩) y155.length co5) x3_1) ∧ Aside0 (Below w.heap.size w w'))
 case atStart => exact ⟨(a0), (y158), (by first | rfl | (simp; done) | (simp [*]; done) | exact congrArg Value.bool (nonempty_l _) | (refine congrArg (Value.int _) ?_; first | omega | (unfold wrap64; omega))), H', ⟨Nat.le_refl _⟩, ⟨by (with_reducible repeat (first | apply Kd.R_alloc | apply Kd.R_drewN | apply Kd.R_drew)); exact HO157.out⟩, ⟨by repeat (first | (with_reducible first | exact HB.out | apply lA_ | apply lN_ | apply lD_) | exact HB.out)⟩⟩
 case round =>
  clear H'
  (try clear p2); (try clear c3); (try clear c3b0); (try clear c3b1); (try clear c4); (try clear c4b0); (try clear c4b1); (try clear c5); (try clear p5); (try clear q5); (try clear hx5); (try clear qi5); (try clear hf5); (try clear p6); (try clear c7); (try clear hx5_0); (try clear p5); (try clear q5)
  obtain ⟨x0_1, x3_1, rfl, HA, HK1, HO_3, HB⟩ := hrel
  have hl3_1 := (Kd.R_reads' HO_3.out).1
  rw [hl3_1] at HO_3
  (try simp only [hl3_1])
  cases gk with
  | zero => exact absurd HA.out (by simp [sha_Sum.l0])
  | succ k1 =>
   have H := HA.out
   clear HA
   simp only [sha_Sum.l0] at H
   by_cases c11 : (x0_1.size : Int) ≥ 64
   ·rw [if_pos c11] at H
    have c11b0 : decide (64 ≤ (x0_1.size : Int)) = true := decide_eq_true c11
    have c11b1 : decide (64 ≤ x0_1.size) = true := decide_eq_true (by omega)
    (try (have c11b7 := c11b0; simp only [hl3_1] at c11b7))
    (try (have c11b8 := c11b1; simp only [hl3_1] at c11b8))
    clear c11
    by_cases c12 : 0 ≤ 64
    rotate_left
    ·rw [if_neg c12] at H
     exact absurd H (by simp)
    rw [if_pos c12] at H
    have c12b0 := eq_true c12
    have c12b1 : decide (0 ≤ 64) = true := decide_eq_true c12
    clear c12
    by_cases c13 : 64 ≤ (x0_1.size : Int)
    rotate_left
    ·rw [if_neg c13] at H
     exact absurd H (by simp)
    rw [if_pos c13] at H
    have c13b0 := eq_true c13
    have c13b1 : decide (64 ≤ (x0_1.size : Int)) = true := decide_eq_true c13
    clear c13
    replace H := ob_ H
    obtain ⟨t159, A140, H⟩ := H
    replace H : (sha_Sum.l0 k1 (x0_1.extract 64 x0_1.size) t159 (IntKind.u64.wrap ((IntKind.u64.wrap ((a0.size : Int))) * 8))) = some r := H
    have A14 := Aside0.mk A140
    clear A140
    have c15b0 := eq_true (od_ (by first | (with_reducible assumption) | assumption) : 64 ≤ (x0_1.size : Int))
    have H' := Aside0.mk H
    clear H
    go_wp2_with (first | ((with_reducible refine gate_callee (f := 73) rfl ?_); refine goesL_ (some 21) rfl rfl Tryd.func73 (by kernel_rfl) rfl #[.pointer (some ⟨go5, 0, none⟩), .string (x0_1.extract 0 64)] rfl (by (try simp only [gm_]); first | done | rfl | (simp only [gl_]; rfl)) ?_; (with_reducible refine (sha_state_block.calls k1 (fun k_ => some k_ = (.slice (some ⟨go5, 0, none⟩) x3_1.length co5 : Value).ownBlock) (.slice (some ⟨go5, 0, none⟩) x3_1.length co5) x3_1 (x0_1.extract 0 64) t159 w _ ?side1 ?side2 ?side3 A14.out).mono ?_); (case side1 => repeat (first | (with_reducible first | exact HB.out | apply lA_ | apply lN_ | apply lD_) | exact HB.out)); (case side2 => exact Kd.R_tight rfl HO_3.out); (case side3 => exact Kd.C_kept_came (Kd.heap_int .u32) HRG.out (by repeat (first | (with_reducible first | exact HB.out | apply lA_ | apply lN_ | apply lD_) | exact HB.out)) (fun k_ hs_ => (fun e_ => Kd.R_base HO_3.out k_ e_.symm) hs_)); rintro e w16 ⟨rfl, hy0, hb, hkp⟩; refine ⟨_, rfl, ?_⟩; have n0_ := Aside0.mk (Kd.R_reok rfl hy0 (fun k_ e_ => HO_3.out.1 k_ e_)); have n1_ := Aside0.mk (hb); clear HO_3; clear HB; have HO_3 := n0_; have HB := n1_; clear n0_ n1_; (try clear hb); (try clear hkp); (try clear hy0)))
    (try simp only [← hl3_1])
    go_roundg k1
    case measure => have := HK1.out; omega
    case rel => exact ⟨(x0_1.extract 64 x0_1.size), (t159), (by first | rfl | (simp; done) | (simp [*]; done) | exact congrArg Value.bool (nonempty_l _) | (refine congrArg (Value.int _) ?_; first | omega | (unfold wrap64; omega))), H', ⟨by have := HK1.out; omega⟩, ⟨by (try simp only [hl3_1]); (with_reducible repeat (first | apply Kd.R_alloc | apply Kd.R_drewN | apply Kd.R_drew)); exact HO_3.out⟩, ⟨by repeat (first | (with_reducible first | exact HB.out | apply lA_ | apply lN_ | apply lD_) | exact HB.out)⟩⟩
   rw [if_neg c11] at H
   have c11b0 : decide (64 ≤ (x0_1.size : Int)) = false := decide_eq_false c11
   have c11b1 : decide (64 ≤ x0_1.size) = false := decide_eq_false (by omega)
   (try (have c11b7 := c11b0; simp only [hl3_1] at c11b7))
   (try (have c11b8 := c11b1; simp only [hl3_1] at c11b8))
   clear c11
   obtain ⟨y160, hy160⟩ : ∃ y_ : List Int, y_ = (List.replicate 128 0) := ⟨_, rfl⟩
   replace H : (if y160.length = 128 then (if 0 < (y160.length : Int) then (if x0_1.size ≤ y160.length then ((some (bytesOf x0_1 ++ y160.drop x0_1.size : List Int)).bind fun y163 => (if (x0_1.size : Int) ≥ 56 then (sha_Sum.j1 k1 x0_1 x3_1 (IntKind.u64.wrap ((IntKind.u64.wrap ((a0.size : Int))) * 8)) y163 128) else (sha_Sum.j1 k1 x0_1 x3_1 (IntKind.u64.wrap ((IntKind.u64.wrap ((a0.size : Int))) * 8)) y163 64))) else (none)) else (none)) else (none)) = some r := by first | (rw [hy160]; with_reducible exact H) | (have H2_ := (Option.bind_some _ _).symm.trans H; rw [hy160]; with_reducible exact H2_) | (have H2_ := (Option.bind_some _ _).symm.trans H; with_reducible exact H2_) | with_reducible exact H | (rw [hy160]; exact H) | exact H
   have Ny160 := Aside0.mk hy160
   clear hy160
   by_cases c17 : y160.length = 128
   rotate_left
   ·rw [if_neg c17] at H
    exact absurd H (by simp)
   rw [if_pos c17] at H
   have c17b0 := eq_true c17
   have c17b1 : decide (y160.length = 128) = true := decide_eq_true c17
   clear c17
   by_cases c18 : 0 < (y160.length : Int)
   rotate_left
   ·rw [if_neg c18] at H
    exact absurd H (by simp)
   rw [if_pos c18] at H
   have c18b0 : decide (0 < (y160.length : Int)) = true := decide_eq_true c18
   have c18b1 : decide (0 < y160.length) = true := decide_eq_true (by omega)
   (try (have c18b7 := c18b0; simp only [hl3_1] at c18b7))
   (try (have c18b8 := c18b1; simp only [hl3_1] at c18b8))
   clear c18
   by_cases c20 : x0_1.size ≤ y160.length
   rotate_left
   ·rw [if_neg c20] at H
    exact absurd H (by simp)
   rw [if_pos c20] at H
   have c20b0 := eq_true c20
   have c20b1 : decide (x0_1.size ≤ y160.length) = true := decide_eq_true c20
   clear c20
   obtain ⟨y163, hy163⟩ : ∃ y_ : List Int, y_ = (bytesOf x0_1 ++ y160.drop x0_1.size) := ⟨_, rfl⟩
   replace H : (if (x0_1.size : Int) ≥ 56 then (sha_Sum.j1 k1 x0_1 x3_1 (IntKind.u64.wrap ((IntKind.u64.wrap ((a0.size : Int))) * 8)) y163 128) else (sha_Sum.j1 k1 x0_1 x3_1 (IntKind.u64.wrap ((IntKind.u64.wrap ((a0.size : Int))) * 8)) y163 64)) = some r := by first | (rw [hy163]; with_reducible exact H) | (have H2_ := (Option.bind_some _ _).symm.trans H; rw [hy163]; with_reducible exact H2_) | (have H2_ := (Option.bind_some _ _).symm.trans H; with_reducible exact H2_) | with_reducible exact H | (rw [hy163]; exact H) | exact H
   have Ny163 := Aside0.mk hy163
   clear hy163
   have HC22 := Aside0.mk H
   clear H
   go_upto_if 27 with (first | ((with_reducible refine gate_dst (N := 5) rfl ?_); refine R_arr (Value.int .u8) (fun _ => rfl) _ 109 ?hg (N := 5) ?hd (List.replicate 128 0) ?hr (Below.refl _ _) (Nat.le_refl _) (by decide) ?_; (case hd => rfl); (case hg => rfl); (case hr => first | (go_simp; done) | (go_simp; rfl)); intro v161 w23 ho24 hb hg_ hnew_; clear hg_ hnew_; (first | rw [← Ny160.out] at ho24 | (simp only [Int.reduceToNat] at ho24; rw [← Ny160.out] at ho24)); have n0_ := Aside0.mk (Kd.R_below (by (with_reducible repeat (first | apply Kd.R_alloc | apply Kd.R_drewN | apply Kd.R_drew)); exact HO_3.out) hb); have n1_ := Aside0.mk (Kd.R_lower ho24 (below_size (by repeat (first | (with_reducible first | exact HB.out | apply lA_ | apply lN_ | apply lD_) | exact HB.out)))); have n2_ := Aside0.mk (below_step (by repeat (first | (with_reducible first | exact HB.out | apply lA_ | apply lN_ | apply lD_) | exact HB.out)) hb); clear HO_3; clear HB; have HO_3 := n0_; have HO162 := n1_; have HB := n2_; clear n0_ n1_ n2_; clear hb ho24; have qa19 : ((0 : Int) < (128 : Int)) = True := eq_true (by have e_ : y160.length = 128 := od_ (by first | (with_reducible assumption) | assumption); have h_ : (0 : Int) < ((y160.length : Int) : Int) := od_ (by first | (with_reducible assumption) | assumption); omega); have p19 : 0 ≤ (0 : Int) := (by omega); have q19 : (0 : Int) < ((y160.length : Int) : Int) := od_ (by first | (with_reducible assumption) | assumption); have qi19 : (0 < y160.length) = True := eq_true (by omega); obtain ⟨go19, co19, eo19, gb19, gl19, cl19, HG19⟩ := Kd.R_form HO162.out (by omega); (first | cases eo19 | (injection eo19 with ea_ en_ ec_; (first | subst ea_ | (injection ea_ with ea_; subst ea_)); subst ec_; clear en_)); have GB19 := Aside0.mk gb19; have GG19 := Aside0.mk HG19; clear gb19 gl19 HG19; obtain ⟨hx19_0, hf19_0⟩ := Kd.R_celln 0 HO162.out (0 : Int) p19 q19; (try rw [show ((0 : Int)).toNat = 0 from rfl] at hx19_0); (try simp only [Nat.reduceMul, Nat.zero_mul, Nat.zero_add, Nat.reduceAdd] at hx19_0); (try rw [show ((0 : Int)).toNat = 0 from rfl] at hf19_0); (try simp only [Nat.reduceMul, Nat.zero_mul, Nat.zero_add, Nat.reduceAdd] at hf19_0); replace p19 := eq_true p19; replace q19 := eq_true q19) | ((with_reducible refine gate_dst (N := 24) rfl ?_); refine aslice_event (P := Tryd.prog) rfl (N := 24) rfl 109 5 128 _ _ rfl rfl Tryd.underlying109 (by go_simp) ?_; have qa21 : ((0 : Int) < (128 : Int)) = True := eq_true (by have e_ : y160.length = 128 := od_ (by first | (with_reducible assumption) | assumption); have h_ : (0 : Int) < ((y160.length : Int) : Int) := od_ (by first | (with_reducible assumption) | assumption); omega); have p21 : 0 ≤ (0 : Int) := (by omega); have q21 : (0 : Int) < ((y160.length : Int) : Int) := od_ (by first | (with_reducible assumption) | assumption); have qi21 : (0 < y160.length) = True := eq_true (by omega); obtain ⟨hx21_0, hf21_0⟩ := Kd.R_celln 0 HO162.out (0 : Int) p21 q21; (try rw [show ((0 : Int)).toNat = 0 from rfl] at hx21_0); (try simp only [Nat.reduceMul, Nat.zero_mul, Nat.zero_add, Nat.reduceAdd] at hx21_0); (try rw [show ((0 : Int)).toNat = 0 from rfl] at hf21_0); (try simp only [Nat.reduceMul, Nat.zero_mul, Nat.zero_add, Nat.reduceAdd] at hf21_0); replace p21 := eq_true p21; replace q21 := eq_true q21) | ((with_reducible refine gate_dst (N := 26) rfl ?_); refine acopy_event (P := Tryd.prog) rfl (N := 26) rfl 42 9 5 _ _ rfl Tryd.underlying42 (by kernel_rfl) rfl x0_1 rfl HO162.out (by have e_ : y160.length = 128 := od_ (by first | (with_reducible assumption) | assumption); have e2_ := (Kd.R_reads' HO162.out).1; omega) (od_ (by first | (with_reducible assumption) | assumption)) ?_; intro w27 hp_ hg; have hw := trivial; rw [← Ny163.out] at hp_; have n0_ := Aside0.mk (Kd.R_over' (v := (.slice (some ⟨go19, 0, none⟩) y160.length co19)) (by (with_reducible repeat (first | apply Kd.R_alloc | apply Kd.R_drewN | apply Kd.R_drew)); exact HO_3.out) (Kd.R_typed HO162.out) (by decide) hg); have n1_ := Aside0.mk (hp_); have n2_ := Aside0.mk ((Below.grown HB.out hg (below_size HB.out) (fun k_ e_ => (Option.some.inj e_) ▸ GB19.out) : Below w.heap.size w w27)); clear HO_3; clear HO162; clear HB; have HO_3 := n0_; have HO162 := n1_; have HB := n2_; clear n0_ n1_ n2_; clear hg hw hp_))
   (try simp only [Act.put, List.setIfInBounds_toArray, List.set_cons_zero, List.set_cons_succ])
   go_cut [6] (fun v6 wc => ∃ (kq : Nat) (x6_21 : Int), v6 = .int .i64 x6_21 ∧ Aside0 (sha_Sum.j1 kq x0_1 x3_1 (IntKind.u64.wrap ((IntKind.u64.wrap ((a0.size : Int))) * 8)) y163 x6_21 = some r) ∧ Aside0 (kq ≤ k1) ∧ Aside0 (Kd.R (Kd.int .u32) 106 wc w.heap.size (fun _ => True) (.slice (some ⟨go5, 0, none⟩) x3_1.length co5) x3_1) ∧ Aside0 (Kd.R (Kd.int .u8) 109 wc w.heap.size (fun _ => True) (.slice (some ⟨go19, 0, none⟩) y160.length co19) y163) ∧ Aside0 (Below w.heap.size w wc))
   case first =>
    have H := HC22.out
    clear HC22
    by_cases c28 : (x0_1.size : Int) ≥ 56
    ·rw [if_pos c28] at H
     have c28b0 : decide (56 ≤ (x0_1.size : Int)) = true := decide_eq_true c28
     have c28b1 : decide (56 ≤ x0_1.size) = true := decide_eq_true (by omega)
     (try (have c28b7 := c28b0; simp only [hl3_1] at c28b7))
     (try (have c28b8 := c28b1; simp only [hl3_1] at c28b8))
     clear c28
     (first | rw [c28b0] | (simp only [i64_w, i32_w]; rw [c28b0]) | skip)
     have H' := Aside0.mk H
     clear H
     go_wp2
     go_meet
     case rel => exact ⟨_, (128), (by first | rfl | (simp; done) | (simp [*]; done) | exact congrArg Value.bool (nonempty_l _) | (refine congrArg (Value.int _) ?_; first | omega | (unfold wrap64; omega))), H', ⟨by have := HK1.out; first | omega | exact Nat.le_refl _⟩, ⟨by (try simp only [hl3_1]); (with_reducible repeat (first | apply Kd.R_alloc | apply Kd.R_drewN | apply Kd.R_drew)); exact HO_3.out⟩, ⟨by (try simp only [hl3_1]); (with_reducible repeat (first | apply Kd.R_alloc | apply Kd.R_drewN | apply Kd.R_drew)); exact HO162.out⟩, ⟨by repeat (first | (with_reducible first | exact HB.out | apply lA_ | apply lN_ | apply lD_) | exact HB.out)⟩⟩
    rw [if_neg c28] at H
    have c28b0 : decide (56 ≤ (x0_1.size : Int)) = false := decide_eq_false c28
    have c28b1 : decide (56 ≤ x0_1.size) = false := decide_eq_false (by omega)
    (try (have c28b7 := c28b0; simp only [hl3_1] at c28b7))
    (try (have c28b8 := c28b1; simp only [hl3_1] at c28b8))
    clear c28
    (first | rw [c28b0] | (simp only [i64_w, i32_w]; rw [c28b0]) | skip)
    have H' := Aside0.mk H
    clear H
    go_wp2
    go_meet
    case rel => exact ⟨_, (64), (by first | rfl | (simp; done) | (simp [*]; done) | exact congrArg Value.bool (nonempty_l _) | (refine congrArg (Value.int _) ?_; first | omega | (unfold wrap64; omega))), H', ⟨by have := HK1.out; first | omega | exact Nat.le_refl _⟩, ⟨by (try simp only [hl3_1]); (with_reducible repeat (first | apply Kd.R_alloc | apply Kd.R_drewN | apply Kd.R_drew)); exact HO_3.out⟩, ⟨by (try simp only [hl3_1]); (with_reducible repeat (first | apply Kd.R_alloc | apply Kd.R_drewN | apply Kd.R_drew)); exact HO162.out⟩, ⟨by repeat (first | (with_reducible first | exact HB.out | apply lA_ | apply lN_ | apply lD_) | exact HB.out)⟩⟩
   case rest =>
    clear HC22
    (try clear c1); (try clear p1); (try clear q1); (try clear hx1); (try clear qi1); (try clear hf1); (try clear c2); (try clear p2); (try clear q2); (try clear hx2); (try clear qi2); (try clear hf2); (try clear c3); (try clear c3b0); (try clear c3b1); (try clear c4); (try clear c4b0); (try clear c4b1); (try clear c5); (try clear p5); (try clear q5); (try clear hx5); (try clear qi5); (try clear hf5); (try clear p6); (try clear c7); (try clear c11); (try clear c11b0); (try clear c11b1); (try clear c11b7); (try clear c11b8); (try clear c12); (try clear c12b0); (try clear c12b1); (try clear c13); (try clear c13b0); (try clear c13b1); (try clear c15); (try clear c15b0); (try clear c17); (try clear c17b0); (try clear c17b1); (try clear c18); (try clear c18b0); (try clear c18b1); (try clear c18b7); (try clear c18b8); (try clear p19); (try clear q19); (try clear hx19); (try clear qi19); (try clear hf19); (try clear c20); (try clear c20b0); (try clear c20b1); (try clear p21); (try clear q21); (try clear hx21); (try clear qi21); (try clear hf21); (try clear c28); (try clear c28b0); (try clear c28b1); (try clear c28b7); (try clear c28b8); (try clear hx19_0); (try clear hx21_0); (try clear hx5_0); (try clear p19); (try clear p2); (try clear p21); (try clear p5); (try clear p6); (try clear q19); (try clear q21); (try clear q5)
    obtain ⟨kq, x6_21, rfl, HA, HJ21, HO_3, HO_5, HB⟩ := hcut
    have hl5_21 := (Kd.R_reads' HO_5.out).1
    rw [hl5_21] at HO_5
    (try simp only [hl5_21])
    (try simp only [hl5_21] at HO_3)
    cases kq with
    | zero => exact absurd HA.out (by simp [sha_Sum.j1])
    | succ kj21 =>
     have H := HA.out
     clear HA
     simp only [sha_Sum.j1] at H
     by_cases c29 : y163.length = 128
     rotate_left
     ·rw [if_neg c29] at H
      exact absurd H (by simp)
     rw [if_pos c29] at H
     have c29b0 := eq_true c29
     have c29b1 : decide (y163.length = 128) = true := decide_eq_true c29
     clear c29
     by_cases c30 : 0 ≤ (x0_1.size : Int)
     rotate_left
     ·rw [if_neg c30] at H
      exact absurd H (by simp)
     rw [if_pos c30] at H
     have c30b0 : decide (0 ≤ (x0_1.size : Int)) = true := decide_eq_true c30
     have c30b1 : decide (0 ≤ x0_1.size) = true := decide_eq_true (by omega)
     (try (have c30b7 := c30b0; simp only [hl3_1, hl5_21] at c30b7))
     (try (have c30b8 := c30b1; simp only [hl3_1, hl5_21] at c30b8))
     clear c30
     by_cases c31 : (x0_1.size : Int) < (y163.length : Int)
     rotate_left
     ·rw [if_neg c31] at H
      exact absurd H (by simp)
     rw [if_pos c31] at H
     have c31b0 : decide ((x0_1.size : Int) < (y163.length : Int)) = true := decide_eq_true c31
     have c31b1 : decide (x0_1.size < y163.length) = true := decide_eq_true (Int.ofNat_lt.mp c31)
     (try (have c31b7 := c31b0; simp only [hl3_1, hl5_21] at c31b7))
     (try (have c31b8 := c31b1; simp only [hl3_1, hl5_21] at c31b8))
     clear c31
     obtain ⟨y164, hy164⟩ : ∃ y_ : List Int, y_ = (y163.set ((x0_1.size : Int) : Int).toNat 128) := ⟨_, rfl⟩
     replace H : (sha_Sum.l1 kj21 x3_1 (IntKind.u64.wrap ((IntKind.u64.wrap ((a0.size : Int))) * 8)) y164 x6_21 0) = some r := by first | (rw [hy164]; with_reducible exact H) | (have H2_ := (Option.bind_some _ _).symm.trans H; rw [hy164]; with_reducible exact H2_) | (have H2_ := (Option.bind_some _ _).symm.trans H; with_reducible exact H2_) | with_reducible exact H | (rw [hy164]; exact H) | exact H
     have Ny164 := Aside0.mk hy164
     clear hy164
     have H' := Aside0.mk H
     clear H
     have qa32 : (((x0_1.size : Int) : Int) < (128 : Int)) = True := eq_true (by have e_ : y163.length = 128 := od_ (by first | (with_reducible assumption) | assumption); have h_ : ((x0_1.size : Int) : Int) < ((y163.length : Int) : Int) := od_ (by first | (with_reducible assumption) | assumption); omega)
     have p32 : 0 ≤ ((x0_1.size : Int) : Int) := od_ (by first | (with_reducible assumption) | assumption)
     have q32 : ((x0_1.size : Int) : Int) < ((y163.length : Int) : Int) := od_ (by first | (with_reducible assumption) | assumption)
     obtain ⟨hx32_0, hf32_0⟩ := Kd.R_celln 0 HO_5.out ((x0_1.size : Int) : Int) p32 q32
     (try simp only [Int.toNat_natCast] at hx32_0 hf32_0)
     replace p32 := eq_true p32
     replace q32 := eq_true q32
     have HP33 := Kd.R_putg HO_5.out ((x0_1.size : Int) : Int) 128
     go_wp2_with (first | ((with_reducible refine gate_store (t := 5) (p := 30) rfl ?_); refine store_event (t := 5) (p := 30) (v := ?vo_w34) (w1 := (wc.setCell ⟨go19, ((x0_1.size : Int) : Int).toNat, none⟩ (.int .u8 128))) ?hg ?ho ?hn ?hr ?_; (case ho => rfl); (case hg => rfl); (case hn => rfl); (case hr => first | (go_simp; done) | (go_simp; rfl)); intro w34 hw; have hg : wc.grownBy w34 (some go19) := (by rw [hw]; exact HP33.2); have hp_ : Kd.R (Kd.int .u8) 109 w34 w.heap.size (fun _ => True) (.slice (some ⟨go19, 0, none⟩) y163.length co19) y164 := (by rw [hw, Ny164.out]; exact HP33.1); clear HP33; have n0_ := Aside0.mk (Kd.R_over' (v := (.slice (some ⟨go19, 0, none⟩) y163.length co19)) (by (with_reducible repeat (first | apply Kd.R_alloc | apply Kd.R_drewN | apply Kd.R_drew)); exact HO_3.out) (Kd.R_typed HO_5.out) (by decide) hg); have n1_ := Aside0.mk (hp_); have n2_ := Aside0.mk ((by rw [hw]; exact below_set (HB.out) GB19.out : Below w.heap.size w w34)); clear HO_3; clear HO_5; clear HB; have HO_3 := n0_; have HO_5 := n1_; have HB := n2_; clear n0_ n1_ n2_; clear hg hw hp_))
     go_loopg [31] kj21 (fun kq v31 w' => ∃ (x5_3 : List Int) (x31_3 : Int), v31 = .int .i64 x31_3 ∧ Aside0 (sha_Sum.l1 kq x3_1 (IntKind.u64.wrap ((IntKind.u64.wrap ((a0.size : Int))) * 8)) x5_3 x6_21 x31_3 = some r) ∧ Aside0 (kq ≤ kj21) ∧ Aside0 (Kd.R (Kd.int .u32) 106 w' w.heap.size (fun _ => True) (.slice (some ⟨go5, 0, none⟩) x3_1.length co5) x3_1) ∧ Aside0 (Kd.R (Kd.int .u8) 109 w' w.heap.size (fun _ => True) (.slice (some ⟨go19, 0, none⟩) y163.length co19) x5_3) ∧ Aside0 (Below w.heap.size w w'))
     case atStart => exact ⟨(y164), (0), (by first | rfl | (simp; done) | (simp [*]; done) | exact congrArg Value.bool (nonempty_l _) | (refine congrArg (Value.int _) ?_; first | omega | (unfold wrap64; omega))), H', ⟨Nat.le_refl _⟩, ⟨by (try simp only [hl3_1]); (try simp only [hl5_21]); (with_reducible repeat (first | apply Kd.R_alloc | apply Kd.R_drewN | apply Kd.R_drew)); exact HO_3.out⟩, ⟨by (try simp only [hl3_1]); (try simp only [hl5_21]); (with_reducible repeat (first | apply Kd.R_alloc | apply Kd.R_drewN | apply Kd.R_drew)); exact HO_5.out⟩, ⟨by repeat (first | (with_reducible first | exact HB.out | apply lA_ | apply lN_ | apply lD_) | exact HB.out)⟩⟩
     case round =>
      clear H'
      (try clear c1); (try clear p1); (try clear q1); (try clear hx1); (try clear qi1); (try clear hf1); (try clear c2); (try clear p2); (try clear q2); (try clear hx2); (try clear qi2); (try clear hf2); (try clear c3); (try clear c3b0); (try clear c3b1); (try clear p3); (try clear q3); (try clear hx3); (try clear hf3); (try clear c4); (try clear c4b0); (try clear c4b1); (try clear c5); (try clear p5); (try clear q5); (try clear hx5); (try clear qi5); (try clear hf5); (try clear p6); (try clear c7); (try clear c11); (try clear c11b0); (try clear c11b1); (try clear c11b7); (try clear c11b8); (try clear c12); (try clear c12b0); (try clear c12b1); (try clear c13); (try clear c13b0); (try clear c13b1); (try clear c15); (try clear c15b0); (try clear c17); (try clear c17b0); (try clear c17b1); (try clear c18); (try clear c18b0); (try clear c18b1); (try clear c18b7); (try clear c18b8); (try clear p19); (try clear q19); (try clear hx19); (try clear qi19); (try clear hf19); (try clear c20); (try clear c20b0); (try clear c20b1); (try clear p21); (try clear q21); (try clear hx21); (try clear qi21); (try clear hf21); (try clear c28); (try clear c28b0); (try clear c28b1); (try clear c28b7); (try clear c28b8); (try clear c29); (try clear c29b0); (try clear c29b1); (try clear c30); (try clear c30b0); (try clear c30b1); (try clear c30b7); (try clear c30b8); (try clear c31); (try clear c31b0); (try clear c31b1); (try clear c31b7); (try clear c31b8); (try clear p32); (try clear q32); (try clear hx32); (try clear hf32); (try clear hx19_0); (try clear hx21_0); (try clear hx32_0); (try clear hx5_0); (try clear p1); (try clear p19); (try clear p2); (try clear p21); (try clear p32); (try clear p5); (try clear p6); (try clear q1); (try clear q19); (try clear q2); (try clear q21); (try clear q32); (try clear q5)
      obtain ⟨x5_3, x31_3, rfl, HA, HK3, HO_3, HO_5, HB⟩ := hrel
      have hl5_3 := (Kd.R_reads' HO_5.out).1
      rw [hl5_3] at HO_5
      (try simp only [hl5_3])
      (try simp only [hl5_3] at HO_3)
      cases gk with
      | zero => exact absurd HA.out (by simp [sha_Sum.l1])
      | succ k3 =>
       have H := HA.out
       clear HA
       simp only [sha_Sum.l1] at H
       by_cases c35 : x31_3 < 8
       ·rw [if_pos c35] at H
        have c35b0 : decide (x31_3 < 8) = true := decide_eq_true c35
        (try (have c35b7 := c35b0; simp only [hl3_1, hl5_21, hl5_3] at c35b7))
        clear c35
        obtain ⟨ji36, hji36⟩ : ∃ j_ : Int, (wrap64 (8 * x31_3)) = j_ := ⟨_, rfl⟩
        replace H : (if 0 ≤ (ji36) then (if x5_3.length = 128 then (if 0 ≤ (wrap64 ((wrap64 (x6_21 - 1)) - x31_3)) then (if (wrap64 ((wrap64 (x6_21 - 1)) - x31_3)) < (x5_3.length : Int) then (sha_Sum.l1 k3 x3_1 (IntKind.u64.wrap ((IntKind.u64.wrap ((a0.size : Int))) * 8)) (x5_3.set ((wrap64 ((wrap64 (x6_21 - 1)) - x31_3)) : Int).toNat ((shr .u64 (IntKind.u64.wrap ((IntKind.u64.wrap ((a0.size : Int))) * 8)) (ji36)) % 256)) x6_21 (wrap64 (x31_3 + 1))) else (none)) else (none)) else (none)) else (none)) = some r := by first | (rw [hji36] at H; exact H) | (simp only [hji36] at H ⊢; exact H)
        have hji36w : (IntKind.i64.wrap (8 * x31_3)) = ji36 := (i64_w _).trans hji36
        by_cases c37 : 0 ≤ (ji36)
        rotate_left
        ·rw [if_neg c37] at H
         exact absurd H (by simp)
        rw [if_pos c37] at H
        have c37b0 := eq_true c37
        have c37b1 : decide (0 ≤ (ji36)) = true := decide_eq_true c37
        clear c37
        obtain ⟨ji38, hji38⟩ : ∃ j_ : Int, (shr .u64 (IntKind.u64.wrap ((IntKind.u64.wrap ((a0.size : Int))) * 8)) (ji36)) = j_ := ⟨_, rfl⟩
        replace H : (if x5_3.length = 128 then (if 0 ≤ (wrap64 ((wrap64 (x6_21 - 1)) - x31_3)) then (if (wrap64 ((wrap64 (x6_21 - 1)) - x31_3)) < (x5_3.length : Int) then (sha_Sum.l1 k3 x3_1 (IntKind.u64.wrap ((IntKind.u64.wrap ((a0.size : Int))) * 8)) (x5_3.set ((wrap64 ((wrap64 (x6_21 - 1)) - x31_3)) : Int).toNat ((ji38) % 256)) x6_21 (wrap64 (x31_3 + 1))) else (none)) else (none)) else (none)) = some r := by first | (rw [hji38] at H; exact H) | (simp only [hji38] at H ⊢; exact H)
        (try (have hji38o := hji38; simp only [u64_len (show a0.size ≤ 9223372036854775807 by omega)] at hji38o))
        have hji38_ : ((IntKind.u64.wrap ((IntKind.u64.wrap ((a0.size : Int))) * 8)) / 2 ^ min (ji36).toNat 64) = ji38 := hji38
        have hji38z : (ji36) ≤ 64 → ((IntKind.u64.wrap ((IntKind.u64.wrap ((a0.size : Int))) * 8)) / 2 ^ (ji36).toNat) = ji38 := shr_small hji38
        (try (have hji38n : (0 ≤ (ji36)) = True := eq_true (by omega)))
        by_cases c39 : x5_3.length = 128
        rotate_left
        ·rw [if_neg c39] at H
         exact absurd H (by simp)
        rw [if_pos c39] at H
        have c39b0 := eq_true c39
        have c39b1 : decide (x5_3.length = 128) = true := decide_eq_true c39
        clear c39
        obtain ⟨ji40, hji40⟩ : ∃ j_ : Int, (wrap64 ((wrap64 (x6_21 - 1)) - x31_3)) = j_ := ⟨_, rfl⟩
        replace H : (if 0 ≤ (ji40) then (if (ji40) < (x5_3.length : Int) then (sha_Sum.l1 k3 x3_1 (IntKind.u64.wrap ((IntKind.u64.wrap ((a0.size : Int))) * 8)) (x5_3.set ((ji40) : Int).toNat ((ji38) % 256)) x6_21 (wrap64 (x31_3 + 1))) else (none)) else (none)) = some r := by first | (rw [hji40] at H; exact H) | (simp only [hji40] at H ⊢; exact H)
        have hji40w : (IntKind.i64.wrap ((wrap64 (x6_21 - 1)) - x31_3)) = ji40 := (i64_w _).trans hji40
        by_cases c41 : 0 ≤ (ji40)
        rotate_left
        ·rw [if_neg c41] at H
         exact absurd H (by simp)
        rw [if_pos c41] at H
        have c41b0 : decide (0 ≤ (ji40)) = true := decide_eq_true c41
        (try (have c41b7 := c41b0; simp only [hl3_1, hl5_21, hl5_3] at c41b7))
        clear c41
        by_cases c42 : (ji40) < (x5_3.length : Int)
        rotate_left
        ·rw [if_neg c42] at H
         exact absurd H (by simp)
        rw [if_pos c42] at H
        have c42b0 : decide ((ji40) < (x5_3.length : Int)) = true := decide_eq_true c42
        (try (have c42b7 := c42b0; simp only [hl3_1, hl5_21, hl5_3] at c42b7))
        clear c42
        obtain ⟨y165, hy165⟩ : ∃ y_ : List Int, y_ = (x5_3.set ((ji40) : Int).toNat ((ji38) % 256)) := ⟨_, rfl⟩
        replace H : (sha_Sum.l1 k3 x3_1 (IntKind.u64.wrap ((IntKind.u64.wrap ((a0.size : Int))) * 8)) y165 x6_21 (wrap64 (x31_3 + 1))) = some r := by first | (rw [hy165]; with_reducible exact H) | (have H2_ := (Option.bind_some _ _).symm.trans H; rw [hy165]; with_reducible exact H2_) | (have H2_ := (Option.bind_some _ _).symm.trans H; with_reducible exact H2_) | with_reducible exact H | (rw [hy165]; exact H) | exact H
        have Ny165 := Aside0.mk hy165
        clear hy165
        have H' := Aside0.mk H
        clear H
        have qa43 : (((ji40) : Int) < (128 : Int)) = True := eq_true (by have e_ : x5_3.length = 128 := od_ (by first | (with_reducible assumption) | assumption); have h_ : ((ji40) : Int) < ((x5_3.length : Int) : Int) := od_ (by first | (with_reducible assumption) | assumption); omega)
        have p43 : 0 ≤ ((ji40) : Int) := od_ (by first | (with_reducible assumption) | assumption)
        have q43 : ((ji40) : Int) < ((x5_3.length : Int) : Int) := od_ (by first | (with_reducible assumption) | assumption)
        obtain ⟨hx43_0, hf43_0⟩ := Kd.R_celln 0 HO_5.out ((ji40) : Int) p43 q43
        replace p43 := eq_true p43
        replace q43 := eq_true q43
        have HP44 := Kd.R_putg HO_5.out ((ji40) : Int) ((ji38) % 256)
        go_wp2_with (first | ((with_reducible refine gate_store (t := 5) (p := 43) rfl ?_); refine store_event (t := 5) (p := 43) (v := ?vo_w45) (w1 := (wr.setCell ⟨go19, ((ji40) : Int).toNat, none⟩ (.int .u8 ((ji38) % 256)))) ?hg ?ho ?hn ?hr ?_; (case ho => rfl); (case hg => rfl); (case hn => rfl); (case hr => first | (go_simp; done) | (go_simp; rfl)); intro w45 hw; have hg : wr.grownBy w45 (some go19) := (by rw [hw]; exact HP44.2); have hp_ : Kd.R (Kd.int .u8) 109 w45 w.heap.size (fun _ => True) (.slice (some ⟨go19, 0, none⟩) x5_3.length co19) y165 := (by rw [hw, Ny165.out]; exact HP44.1); clear HP44; have n0_ := Aside0.mk (Kd.R_over' (v := (.slice (some ⟨go19, 0, none⟩) x5_3.length co19)) (by (with_reducible repeat (first | apply Kd.R_alloc | apply Kd.R_drewN | apply Kd.R_drew)); exact HO_3.out) (Kd.R_typed HO_5.out) (by decide) hg); have n1_ := Aside0.mk (hp_); have n2_ := Aside0.mk ((by rw [hw]; exact below_set (HB.out) GB19.out : Below w.heap.size w w45)); clear HO_3; clear HO_5; clear HB; have HO_3 := n0_; have HO_5 := n1_; have HB := n2_; clear n0_ n1_ n2_; clear hg hw hp_))
        (try simp only [← hl5_3])
        go_roundg k3
        case measure => have := HK1.out; have := HJ21.out; have := HK3.out; omega
        case rel => exact ⟨(y165), (wrap64 (x31_3 + 1)), (by first | rfl | (simp; done) | (simp [*]; done) | exact congrArg Value.bool (nonempty_l _) | (refine congrArg (Value.int _) ?_; first | omega | (unfold wrap64; omega))), H', ⟨by have := HK1.out; have := HJ21.out; have := HK3.out; omega⟩, ⟨by (try simp only [hl3_1]); (try simp only [hl5_21]); (try simp only [hl5_3]); (with_reducible repeat (first | apply Kd.R_alloc | apply Kd.R_drewN | apply Kd.R_drew)); exact HO_3.out⟩, ⟨by (try simp only [hl3_1]); (try simp only [hl5_21]); (try simp only [hl5_3]); (with_reducible repeat (first | apply Kd.R_alloc | apply Kd.R_drewN | apply Kd.R_drew)); exact HO_5.out⟩, ⟨by repeat (first | (with_reducible first | exact HB.out | apply lA_ | apply lN_ | apply lD_) | exact HB.out)⟩⟩
       rw [if_neg c35] at H
       have c35b0 : decide (x31_3 < 8) = false := decide_eq_false c35
       (try (have c35b7 := c35b0; simp only [hl3_1, hl5_21, hl5_3] at c35b7))
       clear c35
       by_cases c46 : x5_3.length = 128
       rotate_left
       ·rw [if_neg c46] at H
        exact absurd H (by simp)
       rw [if_pos c46] at H
       have c46b0 := eq_true c46
       have c46b1 : decide (x5_3.length = 128) = true := decide_eq_true c46
       clear c46
       by_cases c47 : 0 ≤ x6_21
       rotate_left
       ·rw [if_neg c47] at H
        exact absurd H (by simp)
       rw [if_pos c47] at H
       have c47b0 := eq_true c47
       have c47b1 : decide (0 ≤ x6_21) = true := decide_eq_true c47
       clear c47
       by_cases c48 : x6_21 ≤ 128
       rotate_left
       ·rw [if_neg c48] at H
        exact absurd H (by simp)
       rw [if_pos c48] at H
       have c48b0 := eq_true c48
       have c48b1 : decide (x6_21 ≤ 128) = true := decide_eq_true c48
       clear c48
       by_cases c49 : 0 < (x5_3.length : Int)
       rotate_left
       ·rw [if_neg c49] at H
        exact absurd H (by simp)
       rw [if_pos c49] at H
       have c49b0 : decide (0 < (x5_3.length : Int)) = true := decide_eq_true c49
       have c49b1 : decide (0 < x5_3.length) = true := decide_eq_true (by omega)
       (try (have c49b7 := c49b0; simp only [hl3_1, hl5_21, hl5_3] at c49b7))
       (try (have c49b8 := c49b1; simp only [hl3_1, hl5_21, hl5_3] at c49b8))
       clear c49
       have H' := Aside0.mk H
       clear H
       have qa50 : ((0 : Int) < (128 : Int)) = True := eq_true (by have e_ : x5_3.length = 128 := od_ (by first | (with_reducible assumption) | assumption); have h_ : (0 : Int) < ((x5_3.length : Int) : Int) := od_ (by first | (with_reducible assumption) | assumption); omega)
       have p50 : 0 ≤ (0 : Int) := (by omega)
       have q50 : (0 : Int) < ((x5_3.length : Int) : Int) := od_ (by first | (with_reducible assumption) | assumption)
       have qi50 : (0 < x5_3.length) = True := eq_true (by omega)
       obtain ⟨hx50_0, hf50_0⟩ := Kd.R_celln 0 HO_5.out (0 : Int) p50 q50
       (try rw [show ((0 : Int)).toNat = 0 from rfl] at hx50_0)
       (try simp only [Nat.reduceMul, Nat.zero_mul, Nat.zero_add, Nat.reduceAdd] at hx50_0)
       (try rw [show ((0 : Int)).toNat = 0 from rfl] at hf50_0)
       (try simp only [Nat.reduceMul, Nat.zero_mul, Nat.zero_add, Nat.reduceAdd] at hf50_0)
       replace p50 := eq_true p50
       replace q50 := eq_true q50
       have p51 : 0 ≤ (x6_21 : Int) := od_ (by first | (with_reducible assumption) | assumption)
       have q51 : (x6_21 : Int) ≤ (128 : Int) := od_ (by first | (with_reducible assumption) | assumption)
       go_wp2_with (first | ((with_reducible refine gate_dst (N := 46) rfl ?_); refine aslice_to_event (P := Tryd.prog) rfl (N := 46) rfl 109 5 128 _ _ _ rfl rfl (x6_21 : Int) rfl p51 q51 Tryd.underlying109 (by go_simp) ?_; have hm52 : (x6_21 : Int).toNat ≤ x5_3.length := (by have e_ : x5_3.length = 128 := od_ (by first | (with_reducible assumption) | assumption); have e2_ := (Kd.R_reads' HO_5.out).1; first | omega | (have e3_ : (x6_21 : Int) ≤ 128 := od_ (by first | (with_reducible assumption) | assumption); omega))) | ((with_reducible refine gate_dst (N := 47) rfl ?_); refine astr_event (P := Tryd.prog) rfl (N := 47) rfl 42 9 5 _ rfl rfl Tryd.underlying42 Tryd.underlying5 Tryd.underlying9 HO_5.out hm52 ?_))
       go_loopg [8] k3 (fun kq v8 w' => ∃ (x3_4 : List Int) (x8_4 : ByteArray), v8 = .string x8_4 ∧ Aside0 (sha_Sum.l2 kq x3_4 x8_4 = some r) ∧ Aside0 (kq ≤ k3) ∧ Aside0 (Kd.R (Kd.int .u32) 106 w' w.heap.size (fun _ => True) (.slice (some ⟨go5, 0, none⟩) x3_1.length co5) x3_4) ∧ Aside0 (Below w.heap.size w w'))
       case atStart => exact ⟨(x3_1), (strOfNums (x5_3.take (x6_21 : Int).toNat)), (by first | rfl | (simp; done) | (simp [*]; done) | exact congrArg Value.bool (nonempty_l _) | (refine congrArg (Value.int _) ?_; first | omega | (unfold wrap64; omega))), H', ⟨Nat.le_refl _⟩, ⟨by (try simp only [hl3_1]); (try simp only [hl5_21]); (try simp only [hl5_3]); (with_reducible repeat (first | apply Kd.R_alloc | apply Kd.R_drewN | apply Kd.R_drew)); exact HO_3.out⟩, ⟨by repeat (first | (with_reducible first | exact HB.out | apply lA_ | apply lN_ | apply lD_) | exact HB.out)⟩⟩
       case round =>
        clear H'
        (try clear c1); (try clear p1); (try clear q1); (try clear hx1); (try clear qi1); (try clear hf1); (try clear c2); (try clear p2); (try clear q2); (try clear hx2); (try clear qi2); (try clear hf2); (try clear c3); (try clear c3b0); (try clear c3b1); (try clear p3); (try clear q3); (try clear hx3); (try clear hf3); (try clear c4); (try clear c4b0); (try clear c4b1); (try clear p4); (try clear q4); (try clear hx4); (try clear hf4); (try clear c5); (try clear p5); (try clear q5); (try clear hx5); (try clear qi5); (try clear hf5); (try clear p6); (try clear c7); (try clear c11); (try clear c11b0); (try clear c11b1); (try clear c11b7); (try clear c11b8); (try clear c12); (try clear c12b0); (try clear c12b1); (try clear c13); (try clear c13b0); (try clear c13b1); (try clear c15); (try clear c15b0); (try clear c17); (try clear c17b0); (try clear c17b1); (try clear c18); (try clear c18b0); (try clear c18b1); (try clear c18b7); (try clear c18b8); (try clear p19); (try clear q19); (try clear hx19); (try clear qi19); (try clear hf19); (try clear c20); (try clear c20b0); (try clear c20b1); (try clear p21); (try clear q21); (try clear hx21); (try clear qi21); (try clear hf21); (try clear c28); (try clear c28b0); (try clear c28b1); (try clear c28b7); (try clear c28b8); (try clear c29); (try clear c29b0); (try clear c29b1); (try clear c30); (try clear c30b0); (try clear c30b1); (try clear c30b7); (try clear c30b8); (try clear c31); (try clear c31b0); (try clear c31b1); (try clear c31b7); (try clear c31b8); (try clear p32); (try clear q32); (try clear hx32); (try clear hf32); (try clear c35); (try clear c35b0); (try clear c35b7); (try clear c37); (try clear c37b0); (try clear c37b1); (try clear c39); (try clear c39b0); (try clear c39b1); (try clear c41); (try clear c41b0); (try clear c41b7); (try clear c42); (try clear c42b0); (try clear c42b7); (try clear p43); (try clear q43); (try clear hx43); (try clear hf43); (try clear c46); (try clear c46b0); (try clear c46b1); (try clear c47); (try clear c47b0); (try clear c47b1); (try clear c48); (try clear c48b0); (try clear c48b1); (try clear c49); (try clear c49b0); (try clear c49b1); (try clear c49b7); (try clear c49b8); (try clear p50); (try clear q50); (try clear hx50); (try clear qi50); (try clear hf50); (try clear c51); (try clear p51); (try clear q51); (try clear hx19_0); (try clear hx21_0); (try clear hx32_0); (try clear hx43_0); (try clear hx50_0); (try clear hx5_0); (try clear p1); (try clear p19); (try clear p2); (try clear p21); (try clear p3); (try clear p32); (try clear p43); (try clear p5); (try clear p50); (try clear p51); (try clear p6); (try clear q1); (try clear q19); (try clear q2); (try clear q21); (try clear q3); (try clear q32); (try clear q43); (try clear q5); (try clear q50); (try clear q51)
        obtain ⟨x3_4, x8_4, rfl, HA, HK4, HO_3, HB⟩ := hrel
        have hl3_4 := (Kd.R_reads' HO_3.out).1
        rw [hl3_4] at HO_3
        (try simp only [hl3_4])
        cases gk with
        | zero => exact absurd HA.out (by simp [sha_Sum.l2])
        | succ k4 =>
         have H := HA.out
         clear HA
         simp only [sha_Sum.l2] at H
         by_cases c53 : x8_4.toList = ([] : List UInt8)
         ·rw [if_pos c53] at H
          have c53b0 : (x8_4.toList == ([] : List UInt8)) = true := beq_iff_eq.mpr c53
          have c53b1 : (x8_4.toList != ([] : List UInt8)) = false := bne_eq_false_iff_eq.mpr c53
          (try (have c53b7 := c53b0; simp only [hl3_1, hl5_21, hl5_3, hl3_4] at c53b7))
          (try (have c53b8 := c53b1; simp only [hl3_1, hl5_21, hl5_3, hl3_4] at c53b8))
          clear c53
          obtain ⟨y167, hy167⟩ : ∃ y_ : List Int, y_ = (List.replicate 32 0) := ⟨_, rfl⟩
          replace H : (sha_Sum.l3 k4 x3_4 y167 0) = some r := by first | (rw [hy167]; with_reducible exact H) | (have H2_ := (Option.bind_some _ _).symm.trans H; rw [hy167]; with_reducible exact H2_) | (have H2_ := (Option.bind_some _ _).symm.trans H; with_reducible exact H2_) | with_reducible exact H | (rw [hy167]; exact H) | exact H
          have Ny167 := Aside0.mk hy167
          clear hy167
          have H' := Aside0.mk H
          clear H
          go_wp2_with (first | ((with_reducible refine gate_dst (N := 9) rfl ?_); refine R_arr (Value.int .u8) (fun _ => rfl) _ 110 ?hg (N := 9) ?hd (List.replicate 32 0) ?hr (Below.refl _ _) (Nat.le_refl _) (by decide) ?_; (case hd => rfl); (case hg => rfl); (case hr => first | (go_simp; done) | (go_simp; rfl)); intro v168 w54 ho55 hb hg_ hnew_; clear hg_ hnew_; (first | rw [← Ny167.out] at ho55 | (simp only [Int.reduceToNat] at ho55; rw [← Ny167.out] at ho55)); have n0_ := Aside0.mk (Kd.R_below (by (with_reducible repeat (first | apply Kd.R_alloc | apply Kd.R_drewN | apply Kd.R_drew)); exact HO_3.out) hb); have n1_ := Aside0.mk (Kd.R_lower ho55 (below_size (by repeat (first | (with_reducible first | exact HB.out | apply lA_ | apply lN_ | apply lD_) | exact HB.out)))); have n2_ := Aside0.mk (below_step (by repeat (first | (with_reducible first | exact HB.out | apply lA_ | apply lN_ | apply lD_) | exact HB.out)) hb); clear HO_3; clear HB; have HO_3 := n0_; have HO169 := n1_; have HB := n2_; clear n0_ n1_ n2_; clear hb ho55))
          go_loopg [55] k4 (fun kq v55 w' => ∃ (x9_5 : List Int) (x55_5 : Int), v55 = .int .i64 x55_5 ∧ Aside0 (sha_Sum.l3 kq x3_4 x9_5 x55_5 = some r) ∧ Aside0 (kq ≤ k4) ∧ Aside0 (Kd.R (Kd.int .u32) 106 w' w.heap.size (fun _ => True) (.slice (some ⟨go5, 0, none⟩) x3_4.length co5) x3_4) ∧ Aside0 (Kd.R (Kd.int .u8) 110 w' w.heap.size (fun _ => True) v168 x9_5) ∧ Aside0 (Below w.heap.size w w'))
          case atStart => exact ⟨(y167), (0), (by first | rfl | (simp; done) | (simp [*]; done) | exact congrArg Value.bool (nonempty_l _) | (refine congrArg (Value.int _) ?_; first | omega | (unfold wrap64; omega))), H', ⟨Nat.le_refl _⟩, ⟨by (try simp only [hl3_1]); (try simp only [hl5_21]); (try simp only [hl5_3]); (try simp only [hl3_4]); (with_reducible repeat (first | apply Kd.R_alloc | apply Kd.R_drewN | apply Kd.R_drew)); exact HO_3.out⟩, ⟨by (try simp only [hl3_1]); (try simp only [hl5_21]); (try simp only [hl5_3]); (try simp only [hl3_4]); (with_reducible repeat (first | apply Kd.R_alloc | apply Kd.R_drewN | apply Kd.R_drew)); exact HO169.out⟩, ⟨by repeat (first | (with_reducible first | exact HB.out | apply lA_ | apply lN_ | apply lD_) | exact HB.out)⟩⟩
          case round =>
           clear H'
           (try clear c1); (try clear p1); (try clear q1); (try clear hx1); (try clear qi1); (try clear hf1); (try clear c2); (try clear p2); (try clear q2); (try clear hx2); (try clear qi2); (try clear hf2); (try clear c3); (try clear c3b0); (try clear c3b1); (try clear p3); (try clear q3); (try clear hx3); (try clear hf3); (try clear c4); (try clear c4b0); (try clear c4b1); (try clear p4); (try clear q4); (try clear hx4); (try clear hf4); (try clear c5); (try clear p5); (try clear q5); (try clear hx5); (try clear qi5); (try clear hf5); (try clear p6); (try clear c7); (try clear c11); (try clear c11b0); (try clear c11b1); (try clear c11b7); (try clear c11b8); (try clear c12); (try clear c12b0); (try clear c12b1); (try clear c13); (try clear c13b0); (try clear c13b1); (try clear c15); (try clear c15b0); (try clear c17); (try clear c17b0); (try clear c17b1); (try clear c18); (try clear c18b0); (try clear c18b1); (try clear c18b7); (try clear c18b8); (try clear p19); (try clear q19); (try clear hx19); (try clear qi19); (try clear hf19); (try clear c20); (try clear c20b0); (try clear c20b1); (try clear p21); (try clear q21); (try clear hx21); (try clear qi21); (try clear hf21); (try clear c28); (try clear c28b0); (try clear c28b1); (try clear c28b7); (try clear c28b8); (try clear c29); (try clear c29b0); (try clear c29b1); (try clear c30); (try clear c30b0); (try clear c30b1); (try clear c30b7); (try clear c30b8); (try clear c31); (try clear c31b0); (try clear c31b1); (try clear c31b7); (try clear c31b8); (try clear p32); (try clear q32); (try clear hx32); (try clear hf32); (try clear c35); (try clear c35b0); (try clear c35b7); (try clear c37); (try clear c37b0); (try clear c37b1); (try clear c39); (try clear c39b0); (try clear c39b1); (try clear c41); (try clear c41b0); (try clear c41b7); (try clear c42); (try clear c42b0); (try clear c42b7); (try clear p43); (try clear q43); (try clear hx43); (try clear hf43); (try clear c46); (try clear c46b0); (try clear c46b1); (try clear c47); (try clear c47b0); (try clear c47b1); (try clear c48); (try clear c48b0); (try clear c48b1); (try clear c49); (try clear c49b0); (try clear c49b1); (try clear c49b7); (try clear c49b8); (try clear p50); (try clear q50); (try clear hx50); (try clear qi50); (try clear hf50); (try clear c51); (try clear p51); (try clear q51); (try clear c53); (try clear c53b0); (try clear c53b1); (try clear c53b7); (try clear c53b8); (try clear hx19_0); (try clear hx21_0); (try clear hx32_0); (try clear hx43_0); (try clear hx50_0); (try clear hx5_0); (try clear p1); (try clear p19); (try clear p2); (try clear p21); (try clear p3); (try clear p32); (try clear p4); (try clear p43); (try clear p5); (try clear p50); (try clear p51); (try clear p6); (try clear q1); (try clear q19); (try clear q2); (try clear q21); (try clear q3); (try clear q32); (try clear q4); (try clear q43); (try clear q5); (try clear q50); (try clear q51)
           obtain ⟨x9_5, x55_5, rfl, HA, HK5, HO_3, HO_9, HB⟩ := hrel
           cases gk with
           | zero => exact absurd HA.out (by simp [sha_Sum.l3])
           | succ k5 =>
            have H := HA.out
            clear HA
            simp only [sha_Sum.l3] at H
            by_cases c56 : x55_5 < 32
            ·rw [if_pos c56] at H
             have c56b0 : decide (x55_5 < 32) = true := decide_eq_true c56
             (try (have c56b7 := c56b0; simp only [hl3_1, hl5_21, hl5_3, hl3_4] at c56b7))
             clear c56
             by_cases c57 : x3_4.length = 8
             rotate_left
             ·rw [if_neg c57] at H
              exact absurd H (by simp)
             rw [if_pos c57] at H
             have c57b0 := eq_true c57
             have c57b1 : decide (x3_4.length = 8) = true := decide_eq_true c57
             clear c57
             obtain ⟨ji58, hji58⟩ : ∃ j_ : Int, (wrap64 (Int.tdiv x55_5 4)) = j_ := ⟨_, rfl⟩
             replace H : (if 0 ≤ (ji58) then (if (ji58) < (x3_4.length : Int) then (if 0 ≤ (wrap64 (24 - (wrap64 (8 * (Int.tmod x55_5 4))))) then (if x9_5.length = 32 then (if 0 ≤ x55_5 then (if x55_5 < (x9_5.length : Int) then (sha_Sum.l3 k5 x3_4 (x9_5.set (x55_5 : Int).toNat ((shr .u32 (rd x3_4 (ji58)) (wrap64 (24 - (wrap64 (8 * (Int.tmod x55_5 4)))))) % 256)) (wrap64 (x55_5 + 1))) else (none)) else (none)) else (none)) else (none)) else (none)) else (none)) = some r := by first | (rw [hji58] at H; exact H) | (simp only [hji58] at H ⊢; exact H)
             have hji58w : (IntKind.i64.wrap (Int.tdiv x55_5 4)) = ji58 := (i64_w _).trans hji58
             by_cases c59 : 0 ≤ (ji58)
             rotate_left
             ·rw [if_neg c59] at H
              exact absurd H (by simp)
             rw [if_pos c59] at H
             have c59b0 : decide (0 ≤ (ji58)) = true := decide_eq_true c59
             (try (have c59b7 := c59b0; simp only [hl3_1, hl5_21, hl5_3, hl3_4] at c59b7))
             clear c59
             by_cases c60 : (ji58) < (x3_4.length : Int)
             rotate_left
             ·rw [if_neg c60] at H
              exact absurd H (by simp)
             rw [if_pos c60] at H
             have c60b0 : decide ((ji58) < (x3_4.length : Int)) = true := decide_eq_true c60
             (try (have c60b7 := c60b0; simp only [hl3_1, hl5_21, hl5_3, hl3_4] at c60b7))
             clear c60
             obtain ⟨ji61, hji61⟩ : ∃ j_ : Int, (wrap64 (24 - (wrap64 (8 * (Int.tmod x55_5 4))))) = j_ := ⟨_, rfl⟩
             replace H : (if 0 ≤ (ji61) then (if x9_5.length = 32 then (if 0 ≤ x55_5 then (if x55_5 < (x9_5.length : Int) then (sha_Sum.l3 k5 x3_4 (x9_5.set (x55_5 : Int).toNat ((shr .u32 (rd x3_4 (ji58)) (ji61)) % 256)) (wrap64 (x55_5 + 1))) else (none)) else (none)) else (none)) else (none)) = some r := by first | (rw [hji61] at H; exact H) | (simp only [hji61] at H ⊢; exact H)
             have hji61w : (IntKind.i64.wrap (24 - (wrap64 (8 * (Int.tmod x55_5 4))))) = ji61 := (i64_w _).trans hji61
             by_cases c62 : 0 ≤ (ji61)
             rotate_left
             ·rw [if_neg c62] at H
              exact absurd H (by simp)
             rw [if_pos c62] at H
             have c62b0 := eq_true c62
             have c62b1 : decide (0 ≤ (ji61)) = true := decide_eq_true c62
             clear c62
             obtain ⟨ji63, hji63⟩ : ∃ j_ : Int, (shr .u32 (rd x3_4 (ji58)) (ji61)) = j_ := ⟨_, rfl⟩
             replace H : (if x9_5.length = 32 then (if 0 ≤ x55_5 then (if x55_5 < (x9_5.length : Int) then (sha_Sum.l3 k5 x3_4 (x9_5.set (x55_5 : Int).toNat ((ji63) % 256)) (wrap64 (x55_5 + 1))) else (none)) else (none)) else (none)) = some r := by first | (rw [hji63] at H; exact H) | (simp only [hji63] at H ⊢; exact H)
             have hji63_ : ((rd x3_4 (ji58)) / 2 ^ min (ji61).toNat 32) = ji63 := hji63
             have hji63z : (ji61) ≤ 32 → ((rd x3_4 (ji58)) / 2 ^ (ji61).toNat) = ji63 := shr_small hji63
             (try (have hji63n : (0 ≤ (ji61)) = True := eq_true (by omega)))
             by_cases c64 : x9_5.length = 32
             rotate_left
             ·rw [if_neg c64] at H
              exact absurd H (by simp)
             rw [if_pos c64] at H
             have c64b0 := eq_true c64
             have c64b1 : decide (x9_5.length = 32) = true := decide_eq_true c64
             clear c64
             by_cases c65 : 0 ≤ x55_5
             rotate_left
             ·rw [if_neg c65] at H
              exact absurd H (by simp)
             rw [if_pos c65] at H
             have c65b0 : decide (0 ≤ x55_5) = true := decide_eq_true c65
             (try (have c65b7 := c65b0; simp only [hl3_1, hl5_21, hl5_3, hl3_4] at c65b7))
             clear c65
             by_cases c66 : x55_5 < (x9_5.length : Int)
             rotate_left
             ·rw [if_neg c66] at H
              exact absurd H (by simp)
             rw [if_pos c66] at H
             have c66b0 : decide (x55_5 < (x9_5.length : Int)) = true := decide_eq_true c66
             (try (have c66b7 := c66b0; simp only [hl3_1, hl5_21, hl5_3, hl3_4] at c66b7))
             clear c66
             obtain ⟨y171, hy171⟩ : ∃ y_ : List Int, y_ = (x9_5.set (x55_5 : Int).toNat ((ji63) % 256)) := ⟨_, rfl⟩
             replace H : (sha_Sum.l3 k5 x3_4 y171 (wrap64 (x55_5 + 1))) = some r := by first | (rw [hy171]; with_reducible exact H) | (have H2_ := (Option.bind_some _ _).symm.trans H; rw [hy171]; with_reducible exact H2_) | (have H2_ := (Option.bind_some _ _).symm.trans H; with_reducible exact H2_) | with_reducible exact H | (rw [hy171]; exact H) | exact H
             have Ny171 := Aside0.mk hy171
             clear hy171
             have H' := Aside0.mk H
             clear H
             have qa170 : (((ji58) : Int) < (8 : Int)) = True := eq_true (by have e_ : x3_4.length = 8 := od_ (by first | (with_reducible assumption) | assumption); have h_ : ((ji58) : Int) < ((x3_4.length : Int) : Int) := od_ (by first | (with_reducible assumption) | assumption); omega)
             have p170 : 0 ≤ ((ji58) : Int) := od_ (by first | (with_reducible assumption) | assumption)
             have q170 : (ji58) < (x3_4.length : Int) := od_ (by first | (with_reducible assumption) | assumption)
             obtain ⟨ad170, e170, hx170_0⟩ := Kd.at_int (Kd.R_reads' HO_3.out).2.2 (ji58) p170 q170
             obtain rfl : (⟨go5, 0, none⟩ : Addr) = ad170 := (by injection e170)
             (first | simp only [add_plain] at hx170_0 | simp only [add_at] at hx170_0 | simp only [Addr.add, Nat.zero_add] at hx170_0 | skip)
             replace p170 := eq_true p170
             replace q170 := eq_true q170
             have qa67 : ((x55_5 : Int) < (32 : Int)) = True := eq_true (by have e_ : x9_5.length = 32 := od_ (by first | (with_reducible assumption) | assumption); have h_ : (x55_5 : Int) < ((x9_5.length : Int) : Int) := od_ (by first | (with_reducible assumption) | assumption); omega)
             have p67 : 0 ≤ (x55_5 : Int) := od_ (by first | (with_reducible assumption) | assumption)
             have q67 : (x55_5 : Int) < ((x9_5.length : Int) : Int) := od_ (by first | (with_reducible assumption) | assumption)
             obtain ⟨go67, co67, eo67, gb67, gl67, cl67, HG67⟩ := Kd.R_form HO_9.out (by omega)
             (first | cases eo67 | (injection eo67 with ea_ en_ ec_; (first | subst ea_ | (injection ea_ with ea_; subst ea_)); subst ec_; clear en_))
             have GB67 := Aside0.mk gb67
             have GG67 := Aside0.mk HG67
             clear gb67 gl67 HG67
             obtain ⟨hx67_0, hf67_0⟩ := Kd.R_celln 0 HO_9.out (x55_5 : Int) p67 q67
             replace p67 := eq_true p67
             replace q67 := eq_true q67
             have HP68 := Kd.R_putg HO_9.out (x55_5 : Int) ((ji63) % 256)
             go_wp2_with (first | ((with_reducible refine gate_store (t := 5) (p := 69) rfl ?_); refine store_event (t := 5) (p := 69) (v := ?vo_w69) (w1 := (wr.setCell ⟨go67, (x55_5 : Int).toNat, none⟩ (.int .u8 ((ji63) % 256)))) ?hg ?ho ?hn ?hr ?_; (case ho => rfl); (case hg => rfl); (case hn => rfl); (case hr => first | (go_simp; done) | (go_simp; rfl)); intro w69 hw; have hg : wr.grownBy w69 (some go67) := (by rw [hw]; exact HP68.2); have hp_ : Kd.R (Kd.int .u8) 110 w69 w.heap.size (fun _ => True) (.slice (some ⟨go67, 0, none⟩) x9_5.length co67) y171 := (by rw [hw, Ny171.out]; exact HP68.1); clear HP68; have n0_ := Aside0.mk (Kd.R_over' (v := (.slice (some ⟨go67, 0, none⟩) x9_5.length co67)) (by (with_reducible repeat (first | apply Kd.R_alloc | apply Kd.R_drewN | apply Kd.R_drew)); exact HO_3.out) (Kd.R_typed HO_9.out) (by decide) hg); have n1_ := Aside0.mk (hp_); have n2_ := Aside0.mk ((by rw [hw]; exact below_set (HB.out) GB67.out : Below w.heap.size w w69)); clear HO_3; clear HO_9; clear HB; have HO_3 := n0_; have HO_9 := n1_; have HB := n2_; clear n0_ n1_ n2_; clear hg hw hp_))
             go_roundg k5
             case measure => have := HK1.out; have := HJ21.out; have := HK3.out; have := HK4.out; have := HK5.out; omega
             case rel => exact ⟨(y171), (wrap64 (x55_5 + 1)), (by first | rfl | (simp; done) | (simp [*]; done) | exact congrArg Value.bool (nonempty_l _) | (refine congrArg (Value.int _) ?_; first | omega | (unfold wrap64; omega))), H', ⟨by have := HK1.out; have := HJ21.out; have := HK3.out; have := HK4.out; have := HK5.out; omega⟩, ⟨by (try simp only [hl3_1]); (try simp only [hl5_21]); (try simp only [hl5_3]); (try simp only [hl3_4]); (with_reducible repeat (first | apply Kd.R_alloc | apply Kd.R_drewN | apply Kd.R_drew)); exact HO_3.out⟩, ⟨by (try simp only [hl3_1]); (try simp only [hl5_21]); (try simp only [hl5_3]); (try simp only [hl3_4]); (with_reducible repeat (first | apply Kd.R_alloc | apply Kd.R_drewN | apply Kd.R_drew)); exact HO_9.out⟩, ⟨by repeat (first | (with_reducible first | exact HB.out | apply lA_ | apply lN_ | apply lD_) | exact HB.out)⟩⟩
            rw [if_neg c56] at H
            have c56b0 : decide (x55_5 < 32) = false := decide_eq_false c56
            (try (have c56b7 := c56b0; simp only [hl3_1, hl5_21, hl5_3, hl3_4] at c56b7))
            clear c56
            by_cases c70 : x9_5.length = 32
            rotate_left
            ·rw [if_neg c70] at H
             exact absurd H (by simp)
            rw [if_pos c70] at H
            have c70b0 := eq_true c70
            have c70b1 : decide (x9_5.length = 32) = true := decide_eq_true c70
            clear c70
            by_cases c71 : 0 < (x9_5.length : Int)
            rotate_left
            ·rw [if_neg c71] at H
             exact absurd H (by simp)
            rw [if_pos c71] at H
            have c71b0 : decide (0 < (x9_5.length : Int)) = true := decide_eq_true c71
            have c71b1 : decide (0 < x9_5.length) = true := decide_eq_true (by omega)
            (try (have c71b7 := c71b0; simp only [hl3_1, hl5_21, hl5_3, hl3_4] at c71b7))
            (try (have c71b8 := c71b1; simp only [hl3_1, hl5_21, hl5_3, hl3_4] at c71b8))
            clear c71
            obtain rfl := Option.some.inj H
            have qa72 : ((0 : Int) < (32 : Int)) = True := eq_true (by have e_ : x9_5.length = 32 := od_ (by first | (with_reducible assumption) | assumption); have h_ : (0 : Int) < ((x9_5.length : Int) : Int) := od_ (by first | (with_reducible assumption) | assumption); omega)
            have p72 : 0 ≤ (0 : Int) := (by omega)
            have q72 : (0 : Int) < ((x9_5.length : Int) : Int) := od_ (by first | (with_reducible assumption) | assumption)
            have qi72 : (0 < x9_5.length) = True := eq_true (by omega)
            obtain ⟨go72, co72, eo72, gb72, gl72, cl72, HG72⟩ := Kd.R_form HO_9.out (by omega)
            (first | cases eo72 | (injection eo72 with ea_ en_ ec_; (first | subst ea_ | (injection ea_ with ea_; subst ea_)); subst ec_; clear en_))
            have GB72 := Aside0.mk gb72
            have GG72 := Aside0.mk HG72
            clear gb72 gl72 HG72
            obtain ⟨hx72_0, hf72_0⟩ := Kd.R_celln 0 HO_9.out (0 : Int) p72 q72
            (try rw [show ((0 : Int)).toNat = 0 from rfl] at hx72_0)
            (try simp only [Nat.reduceMul, Nat.zero_mul, Nat.zero_add, Nat.reduceAdd] at hx72_0)
            (try rw [show ((0 : Int)).toNat = 0 from rfl] at hf72_0)
            (try simp only [Nat.reduceMul, Nat.zero_mul, Nat.zero_add, Nat.reduceAdd] at hf72_0)
            replace p72 := eq_true p72
            replace q72 := eq_true q72
            go_wp2_with (first | ((with_reducible refine gate_dst (N := 71) rfl ?_); refine aslice_event (P := Tryd.prog) rfl (N := 71) rfl 110 5 32 _ _ rfl rfl Tryd.underlying110 (by go_simp) ?_; have hm74 : 32 ≤ x9_5.length := (by have e_ : x9_5.length = 32 := od_ (by first | (with_reducible assumption) | assumption); have e2_ := (Kd.R_reads' HO_9.out).1; first | omega | (have e3_ : (32 : Int) ≤ 32 := od_ (by first | (with_reducible assumption) | assumption); omega))) | ((with_reducible refine gate_dst (N := 72) rfl ?_); refine astr_event (P := Tryd.prog) rfl (N := 72) rfl 42 9 5 _ rfl rfl Tryd.underlying42 Tryd.underlying5 Tryd.underlying9 HO_9.out hm74 ?_))
            go_ret
            exact ⟨by first | rfl | (simp [errW_none, errW_some] <;> rfl) | (simp [*, errW_none, errW_some] <;> rfl), by repeat (first | (with_reducible first | exact HB.out | apply lA_ | apply lN_ | apply lD_) | exact HB.out)⟩
         rw [if_neg c53] at H
         have c53b0 : (x8_4.toList == ([] : List UInt8)) = false := beq_eq_false_iff_ne.mpr c53
         have c53b1 : (x8_4.toList != ([] : List UInt8)) = true := bne_iff_ne.mpr c53
         (try (have c53b7 := c53b0; simp only [hl3_1, hl5_21, hl5_3, hl3_4] at c53b7))
         (try (have c53b8 := c53b1; simp only [hl3_1, hl5_21, hl5_3, hl3_4] at c53b8))
         by_cases c75 : 0 ≤ 64
         rotate_left
         ·rw [if_neg c75] at H
          exact absurd H (by simp)
         rw [if_pos c75] at H
         have c75b0 := eq_true c75
         have c75b1 : decide (0 ≤ 64) = true := decide_eq_true c75
         clear c75
         by_cases c76 : 64 ≤ (x8_4.size : Int)
         rotate_left
         ·rw [if_neg c76] at H
          exact absurd H (by simp)
         rw [if_pos c76] at H
         have c76b0 := eq_true c76
         have c76b1 : decide (64 ≤ (x8_4.size : Int)) = true := decide_eq_true c76
         clear c76
         replace H := ob_ H
         obtain ⟨t166, A770, H⟩ := H
         replace H : (sha_Sum.l2 k4 t166 (x8_4.extract 64 x8_4.size)) = some r := H
         have A77 := Aside0.mk A770
         clear A770
         have c78b0 := eq_true (od_ (by first | (with_reducible assumption) | assumption) : 64 ≤ (x8_4.size : Int))
         have H' := Aside0.mk H
         clear H
         go_wp2_with (first | ((with_reducible refine gate_callee (f := 73) rfl ?_); refine goesL_ (some 54) rfl rfl Tryd.func73 (by kernel_rfl) rfl #[.pointer (some ⟨go5, 0, none⟩), .string (x8_4.extract 0 64)] rfl (by (try simp only [gm_]); first | done | rfl | (simp only [gl_]; rfl)) ?_; (with_reducible refine (sha_state_block.calls k4 (fun k_ => some k_ = (.slice (some ⟨go5, 0, none⟩) x3_4.length co5 : Value).ownBlock) (.slice (some ⟨go5, 0, none⟩) x3_4.length co5) x3_4 (x8_4.extract 0 64) t166 w _ ?side1 ?side2 ?side3 A77.out).mono ?_); (case side1 => repeat (first | (with_reducible first | exact HB.out | apply lA_ | apply lN_ | apply lD_) | exact HB.out)); (case side2 => exact Kd.R_tight rfl HO_3.out); (case side3 => exact Kd.C_kept_came (Kd.heap_int .u32) HRG.out (by repeat (first | (with_reducible first | exact HB.out | apply lA_ | apply lN_ | apply lD_) | exact HB.out)) (fun k_ hs_ => (fun e_ => Kd.R_base HO_3.out k_ e_.symm) hs_)); rintro e w79 ⟨rfl, hy0, hb, hkp⟩; refine ⟨_, rfl, ?_⟩; have n0_ := Aside0.mk (Kd.R_reok rfl hy0 (fun k_ e_ => HO_3.out.1 k_ e_)); have n1_ := Aside0.mk (hb); clear HO_3; clear HB; have HO_3 := n0_; have HB := n1_; clear n0_ n1_; (try clear hb); (try clear hkp); (try clear hy0)))
         (try simp only [← hl3_4])
         go_roundg k4
         case measure => have := HK1.out; have := HJ21.out; have := HK3.out; have := HK4.out; omega
         case rel => exact ⟨(t166), (x8_4.extract 64 x8_4.size), (by first | rfl | (simp; done) | (simp [*]; done) | exact congrArg Value.bool (nonempty_l _) | (refine congrArg (Value.int _) ?_; first | omega | (unfold wrap64; omega))), H', ⟨by have := HK1.out; have := HJ21.out; have := HK3.out; have := HK4.out; omega⟩, ⟨by (try simp only [hl3_1]); (try simp only [hl5_21]); (try simp only [hl5_3]); (try simp only [hl3_4]); (with_reducible repeat (first | apply Kd.R_alloc | apply Kd.R_drewN | apply Kd.R_drew)); exact HO_3.out⟩, ⟨by repeat (first | (with_reducible first | exact HB.out | apply lA_ | apply lN_ | apply lD_) | exact HB.out)⟩⟩

/-! ### octets_Long: function 75 -/
def octets_Long.f (k : Nat) (a0 : Int) : Option (ByteArray × Bool) := (octets_laid.f k a0 4).bind fun bt172 => (some (bt172.1, bt172.2))
theorem octets_Long.mono : ∀ a0 k, LeO (octets_Long.f k a0) (octets_Long.f (k + 1) a0) := by
 intro a0 k
 unfold octets_Long.f
 repeat' first
  | (with_reducible exact octets_laid.mono _ _ _)
  | (with_reducible exact LeO.refl _)
  | (with_reducible exact LeO.none _)
  | (with_reducible refine LeO.ite ?_ ?_)
  | (with_reducible refine LeO.bind ?_ (fun _ => ?_))
  | exact octets_laid.mono _ _ _
  | exact LeO.none _
  | refine LeO.ite ?_ ?_
  | refine LeO.bind ?_ (fun _ => ?_)
set_option maxHeartbeats 64000000 in
set_option maxRecDepth 100000 in
theorem octets_Long.calls (k : Nat) (a0 : Int) (r1 : ByteArray) (r2 : Bool) (w : World) (h : octets_Long.f k a0 = some (r1, r2)) :
 Calls Tryd.prog 75 #[.int .i64 a0] w fun e w' => e = .returned (.tuple #[.string r1, .bool r2]) ∧ Below w.heap.size w w' := by
 have HB := Aside0.mk (Below.refl w.heap.size w)
 have H : ((octets_laid.f k a0 4).bind fun bt172 => (some (bt172.1, bt172.2))) = some (r1, r2) := h
 clear h
 replace H := ob_ H
 obtain ⟨⟨t172, t173⟩, A20, H⟩ := H
 replace H : (some (t172, t173)) = some (r1, r2) := H
 have A2 := Aside0.mk A20
 clear A20
 simp only [Option.some.injEq, Prod.mk.injEq] at H
 obtain ⟨rfl, rfl⟩ := H
 go_enter Tryd.func75, Tryd.ntmps75
 go_wp2_with (first | ((with_reducible refine gate_callee (f := 70) rfl ?_); refine goesL_ (some 5) rfl rfl Tryd.func70 (by kernel_rfl) rfl #[.int .i64 a0, .int .i64 4] rfl (by (try simp only [gm_]); first | done | rfl | (simp only [gl_]; rfl)) ?_; (with_reducible refine (octets_laid.calls k a0 4 t172 t173 _ A2.out).mono ?_); rintro e w3 ⟨rfl, hb⟩; refine ⟨_, rfl, ?_⟩; have n0_ := Aside0.mk (below_step (by repeat (first | (with_reducible first | exact HB.out | apply lA_ | apply lN_ | apply lD_) | exact HB.out)) hb); clear HB; have HB := n0_; clear n0_; (try clear hb); (try clear hb2); (try clear hk); (try clear hi)))
 go_ret2
 exact ⟨by first | rfl | (simp [errW_none, errW_some] <;> rfl) | (simp [*, errW_none, errW_some] <;> rfl), by repeat (first | (with_reducible first | exact HB.out | apply lA_ | apply lN_ | apply lD_) | exact HB.out)⟩

/-! ### sha_Input: function 52 (walked by hand) -/
/-- Texts with their lengths in four bytes, one behind the other. -/
def sha_Input.parts (k : Nat) : List ByteArray → Option (List UInt8)
  | [] => some []
  | s :: l => (octets_Long.f k (s.size : Int)).bind fun n => (sha_Input.parts k l).bind fun r => some ((n.1.toList ++ s.toList) ++ r)
def sha_Input.u8 (x : Int) : UInt8 := UInt8.ofNat (x % 256).toNat
def sha_Input.f (k : Nat) (a0 : Int) (l1 : List ByteArray) : Option ByteArray :=
  (sha_Input.parts k l1).bind fun r => if ([sha_Input.u8 a0] ++ r).length ≤ 140737488355328 then some ⟨([sha_Input.u8 a0] ++ r).toArray⟩ else none
theorem sha_Input.parts_mono : ∀ k l, LeO (sha_Input.parts k l) (sha_Input.parts (k + 1) l)
  | _, [] => LeO.refl _
  | k, s :: l => by
    unfold sha_Input.parts
    exact LeO.bind (octets_Long.mono _ _) fun _ => LeO.bind (sha_Input.parts_mono k l) fun _ => LeO.refl _
theorem sha_Input.mono : ∀ a0 l1 k, LeO (sha_Input.f k a0 l1) (sha_Input.f (k + 1) a0 l1) := by
  intro a0 l1 k
  unfold sha_Input.f
  exact LeO.bind (sha_Input.parts_mono k l1) fun _ => LeO.refl _
theorem sha_Input.wrap_step {n : Nat} {x : Int} (h : (n : Nat) ≤ 9223372036854775807) (h0 : 0 ≤ x) (h1 : x < (n : Int)) : IntKind.i64.wrap (x + 1) = x + 1 := by
  rw [IntKind.wrap_i64]; omega
theorem sha_Input.size_toList (s : ByteArray) : s.toList.length = s.size := by rw [ByteArray.toList_eq, data_length]
theorem sha_Input.drop_rd (l : List ByteArray) (x : Int) (h0 : 0 ≤ x) (h1 : x < (l.length : Int)) : l.drop x.toNat = rdOf ByteArray.empty l x :: l.drop (x + 1).toNat := by
  have hl : x.toNat < l.length := by omega
  have e : (x + 1).toNat = x.toNat + 1 := by omega
  rw [e, List.drop_eq_getElem_cons hl]
  congr 1
  simp [rdOf, List.getD, hl]
set_option maxHeartbeats 8000000 in
set_option maxRecDepth 100000 in
theorem sha_Input.calls (k : Nat) (a0 : Int) (A1 : Option Addr) (c1 : Nat) (l1 : List ByteArray) (r : ByteArray) (w : World) (hr1 : Kd.C Kd.string w A1 l1.length l1) (hc1 : l1.length ≤ c1) (h : sha_Input.f k a0 l1 = some r) :
    Calls Tryd.prog 52 #[.int .i64 a0, .slice A1 l1.length c1] w fun e w' => e = .returned (.string r) ∧ Below w.heap.size w w' := by
  have HR1 := Aside0.mk hr1
  have HC1 := Aside0.mk hc1
  clear hr1 hc1
  unfold sha_Input.f at h
  obtain ⟨rest, hR, h⟩ := Option.bind_eq_some_iff.mp h
  obtain ⟨bs, hbs⟩ : ∃ bs, [sha_Input.u8 a0] ++ rest = bs := ⟨_, rfl⟩
  rw [hbs] at h
  have hbl : bs.length ≤ 140737488355328 := by
    by_cases hh : bs.length ≤ 140737488355328
    · exact hh
    · rw [if_neg hh] at h; cases h
  rw [if_pos hbl] at h
  obtain rfl := Option.some.inj h
  have HL := Aside0.mk hbl
  have HT0 := Aside0.mk hR
  have HBS0 := Aside0.mk hbs
  have HBL := Aside0.mk (show 1 + rest.length = bs.length by rw [← hbs]; simp; omega)
  have hn1 := HR1.out.2.1
  have hrest : rest.length < bs.length := by have := HBL.out; omega
  clear h hbl hR hbs hrest
  go_enter Tryd.func52, Tryd.ntmps52
  go_wp2_with (first | ((with_reducible refine gate_dst (N := 5) rfl ?_); refine Kd.event_run (w1 := w.alloc (.cells #[.pointer none, .slice none 0 0] 58)) (v := .pointer (some ⟨w.heap.size, 0, none⟩)) ?hg ?hr ?_; (case hg => rfl); (case hr => first | (go_simp; done) | (go_simp; rfl))) | (go_at_call 74; (refine (Bld.St.grow w 64 (by decide)).mono ?_); rintro e w3 ⟨rfl, hs⟩; obtain ⟨b, hb_⟩ : ∃ b, b = w.heap.size := ⟨_, rfl⟩; rw [← hb_] at hs; rw [← hb_]; have HS := Aside0.mk hs; have LB := Aside0.mk (show w.heap.size ≤ b by rw [hb_]; exact Nat.le_refl _); clear hs hb_) | (go_at_call 45; (refine (HS.out.byte _ ?s0 ?s1 ?s2).mono ?_); (case s0 => first | omega | (simp only [IntKind.wrap_u8]; omega)); (case s1 => first | omega | (simp only [IntKind.wrap_u8]; omega)); (case s2 => first | (simp; done) | (have := HL.out; have := HBL.out; simp at *; omega)); rintro e w4 ⟨rfl, hs⟩; have n0_ := Aside0.mk hs; clear HS hs; have HS := n0_; clear n0_))
  go_loopg [16] l1.length (fun kq v16 w' => ∃ x : Int, v16 = .int .i64 x ∧ Aside0 (0 ≤ x ∧ x + (kq : Int) = (l1.length : Int)) ∧ Aside0 (∃ acc rest, sha_Input.parts k (l1.drop x.toNat) = some rest ∧ acc ++ rest = bs ∧ Bld.St w b acc w'))
  case atStart => exact ⟨0, (by first | rfl | simp), ⟨by omega⟩, ⟨_, rest, HT0.out, HBS0.out, HS.out⟩⟩
  case round =>
    obtain ⟨x, rfl, HP, HE⟩ := hrel
    clear HS HBL HT0 HBS0
    obtain ⟨acc, rest1, hT, hE, hS⟩ := HE.out
    have HS := Aside0.mk hS
    have hp := HP.out
    cases gk with
    | zero =>
      have hc : decide (x < (l1.length : Int)) = false := decide_eq_false (by omega)
      have hd : l1.drop x.toNat = [] := List.drop_of_length_le (by omega)
      rw [hd] at hT
      have hr0 : rest1 = [] := (Option.some.inj hT).symm
      have HBS := Aside0.mk (show acc = bs by rw [← hE, hr0, List.append_nil])
      clear hT hE hS hd hr0 HE hp HP
      go_wp2_with (first | (go_at_call 46; have n0_ := Aside0.mk (HS.out.cast (show _ = bs from HBS.out)); clear HS; have HS := n0_; clear n0_; (refine HS.out.out.mono ?_); rintro e w7 ⟨rfl, hs⟩; have n0_ := Aside0.mk hs; clear HS hs; have HS := n0_; clear n0_))
      go_ret
      exact ⟨rfl, HS.out.below (Below.refl _ _) LB.out⟩
    | succ k1 =>
      have hc : decide (x < (l1.length : Int)) = true := decide_eq_true (by omega)
      have p0 : (0 ≤ x) = True := eq_true (by omega)
      have q0 : (x < (l1.length : Int)) = True := eq_true (by omega)
      have hw1 := sha_Input.wrap_step (n := l1.length) (x := x) hn1 (by omega) (by omega)
      rw [sha_Input.drop_rd l1 x (by omega) (by omega)] at hT
      unfold sha_Input.parts at hT
      obtain ⟨⟨n, ok⟩, hT1, hT⟩ := Option.bind_eq_some_iff.mp hT
      obtain ⟨rest2, hT2, hT⟩ := Option.bind_eq_some_iff.mp hT
      have hr1 : (n.toList ++ (rdOf ByteArray.empty l1 x).toList) ++ rest2 = rest1 := Option.some.inj hT
      have HT := Aside0.mk hT1
      have HT2 := Aside0.mk hT2
      have HE2 := Aside0.mk (show ((acc ++ n.toList) ++ (rdOf ByteArray.empty l1 x).toList) ++ rest2 = bs by rw [← hE, ← hr1]; simp only [List.append_assoc])
      have HBL := Aside0.mk (show acc.length + n.size + (rdOf ByteArray.empty l1 x).size + rest2.length = bs.length by rw [← HE2.out]; simp [sha_Input.size_toList]; omega)
      obtain ⟨ad, e4_, hx⟩ := Kd.at_string HR1.out x (by omega) (by omega)
      cases e4_
      have hx0 := ((HS.out.below (Below.refl _ _) LB.out).cell (World.block_lt_of_cell? w _ hx)).trans hx
      clear hT hT1 hT2 hE hS hr1 HE hx hp
      go_wp2_with (first | (go_at_call 75; (with_reducible refine (octets_Long.calls k _ n ok _ HT.out).mono ?_); rintro e w5 ⟨rfl, hb⟩; have n0_ := Aside0.mk (HS.out.later hb); clear HS hb; have HS := n0_; clear n0_) | (go_at_call 44; (refine (HS.out.str _ ?s2).mono ?_); (case s2 => have := HL.out; have := HBL.out; (try simp only [List.length_append, sha_Input.size_toList]); omega); rintro e w6 ⟨rfl, hs⟩; have n0_ := Aside0.mk hs; clear HS hs; have HS := n0_; clear n0_))
      go_roundg k1
      case measure => omega
      case rel => exact ⟨x + 1, (by first | rfl | (simp; done) | (simp [*]; done) | (refine congrArg (Value.int _) ?_; rw [hw1])), ⟨by have := HP.out; omega⟩, ⟨_, rest2, HT2.out, HE2.out, HS.out⟩⟩

/-! ### sha_Tag: function 36 -/
def sha_Tag.f (k : Nat) (a0 : Int) (l1 : List ByteArray) : Option (ByteArray) := (sha_Input.f k a0 l1).bind fun t174 => ((sha_Sum.f k t174).bind fun t175 => (some t175))
theorem sha_Tag.mono : ∀ a0 a1 k, LeO (sha_Tag.f k a0 a1) (sha_Tag.f (k + 1) a0 a1) := by
 intro a0 a1 k
 unfold sha_Tag.f
 repeat' first
  | (with_reducible exact sha_Input.mono _ _ _)
  | (with_reducible exact sha_Sum.mono _ _)
  | (with_reducible exact LeO.refl _)
  | (with_reducible exact LeO.none _)
  | (with_reducible refine LeO.ite ?_ ?_)
  | (with_reducible refine LeO.bind ?_ (fun _ => ?_))
  | exact sha_Input.mono _ _ _
  | exact sha_Sum.mono _ _
  | exact LeO.none _
  | refine LeO.ite ?_ ?_
  | refine LeO.bind ?_ (fun _ => ?_)
set_option maxHeartbeats 64000000 in
set_option maxRecDepth 100000 in
theorem sha_Tag.calls (k : Nat) (a0 : Int) (A1 : Option Addr) (c1 : Nat) (l1 : List ByteArray) (r : ByteArray) (w : World) (hr1 : Kd.C Kd.string w A1 l1.length l1) (hc1 : l1.length ≤ c1) (hrG : Kd.C (Kd.int .u32) w (some ⟨0, 0, none⟩) keysL.length keysL) (h : sha_Tag.f k a0 l1 = some r) :
 Calls Tryd.prog 36 #[.int .i64 a0, .slice A1 l1.length c1] w fun e w' => e = .returned (.string r) ∧ Below w.heap.size w w' := by
 have HR1 := Aside0.mk hr1
 have HC1 := Aside0.mk hc1
 clear hr1 hc1
 have HRG := Aside0.mk hrG
 clear hrG
 have HB := Aside0.mk (Below.refl w.heap.size w)
 have H : ((sha_Input.f k a0 l1).bind fun t174 => ((sha_Sum.f k t174).bind fun t175 => (some t175))) = some r := h
 clear h
 replace H := ob_ H
 obtain ⟨t174, A30, H⟩ := H
 replace H : ((sha_Sum.f k t174).bind fun t175 => (some t175)) = some r := H
 have A3 := Aside0.mk A30
 clear A30
 replace H := ob_ H
 obtain ⟨t175, A40, H⟩ := H
 replace H : (some t175) = some r := H
 have A4 := Aside0.mk A40
 clear A40
 obtain rfl := Option.some.inj H
 go_enter Tryd.func36, Tryd.ntmps36
 go_wp2_with (first | ((with_reducible refine gate_callee (f := 52) rfl ?_); refine goesL_ (some 7) rfl rfl Tryd.func52 (by kernel_rfl) rfl #[.int .i64 a0, .slice A1 l1.length c1] rfl (by (try simp only [gm_]); first | done | rfl | (simp only [gl_]; rfl)) ?_; (with_reducible refine (sha_Input.calls k a0 _ _ l1 t174 _ ?side1 ?side2 A3.out).mono ?_); (case side1 => repeat (first | exact HR1.out | (with_reducible refine Kd.C_alloc ?_ _) | (with_reducible refine Kd.C_drewN ?_ _) | (with_reducible refine Kd.C_drew ?_))); (case side2 => exact HC1.out); rintro e w5 ⟨rfl, hb⟩; refine ⟨_, rfl, ?_⟩; have n0_ := Aside0.mk (below_step (by repeat (first | (with_reducible first | exact HB.out | apply lA_ | apply lN_ | apply lD_) | exact HB.out)) hb); clear HB; have HB := n0_; clear n0_; (try clear hb); (try clear hb2); (try clear hk); (try clear hi)) | ((with_reducible refine gate_callee (f := 51) rfl ?_); refine goesL_ (some 8) rfl rfl Tryd.func51 (by kernel_rfl) rfl #[.string t174] rfl (by (try simp only [gm_]); first | done | rfl | (simp only [gl_]; rfl)) ?_; (with_reducible refine (sha_Sum.calls k t174 t175 _ ?side1 A4.out).mono ?_); (case side1 => repeat (first | exact (Kd.C_below HRG.out HB.out) | (with_reducible refine Kd.C_alloc ?_ _) | (with_reducible refine Kd.C_drewN ?_ _) | (with_reducible refine Kd.C_drew ?_))); rintro e w6 ⟨rfl, hb⟩; refine ⟨_, rfl, ?_⟩; have n0_ := Aside0.mk (below_step (by repeat (first | (with_reducible first | exact HB.out | apply lA_ | apply lN_ | apply lD_) | exact HB.out)) hb); clear HB; have HB := n0_; clear n0_; (try clear hb); (try clear hb2); (try clear hk); (try clear hi)))
 go_ret
 exact ⟨by first | rfl | (simp [errW_none, errW_some] <;> rfl) | (simp [*, errW_none, errW_some] <;> rfl), by repeat (first | (with_reducible first | exact HB.out | apply lA_ | apply lN_ | apply lD_) | exact HB.out)⟩

/-! ### event_Id: function 20 -/
def event_Id.f (k : Nat) (a0 : ByteArray) : Option (ByteArray) := (sha_Tag.f k 7 (([a0] : List ByteArray))).bind fun t179 => (some t179)
theorem event_Id.mono : ∀ a0 k, LeO (event_Id.f k a0) (event_Id.f (k + 1) a0) := by
 intro a0 k
 unfold event_Id.f
 repeat' first
  | (with_reducible exact sha_Tag.mono _ _ _)
  | (with_reducible exact LeO.refl _)
  | (with_reducible exact LeO.none _)
  | (with_reducible refine LeO.ite ?_ ?_)
  | (with_reducible refine LeO.bind ?_ (fun _ => ?_))
  | exact sha_Tag.mono _ _ _
  | exact LeO.none _
  | refine LeO.ite ?_ ?_
  | refine LeO.bind ?_ (fun _ => ?_)
set_option maxHeartbeats 64000000 in
set_option maxRecDepth 100000 in
theorem event_Id.calls (k : Nat) (a0 : ByteArray) (r : ByteArray) (w : World) (hrG : Kd.C (Kd.int .u32) w (some ⟨0, 0, none⟩) keysL.length keysL) (h : event_Id.f k a0 = some r) :
 Calls Tryd.prog 20 #[.string a0] w fun e w' => e = .returned (.string r) ∧ Below w.heap.size w w' := by
 have HRG := Aside0.mk hrG
 clear hrG
 have HB := Aside0.mk (Below.refl w.heap.size w)
 have H : ((sha_Tag.f k 7 (([a0] : List ByteArray))).bind fun t179 => (some t179)) = some r := h
 clear h
 obtain ⟨y176, hy176⟩ : ∃ y_ : List ByteArray, y_ = (([a0] : List ByteArray)) := ⟨_, rfl⟩
 replace H : ((sha_Tag.f k 7 y176).bind fun t179 => (some t179)) = some r := by first | (rw [hy176]; with_reducible exact H) | (have H2_ := (Option.bind_some _ _).symm.trans H; rw [hy176]; with_reducible exact H2_) | (have H2_ := (Option.bind_some _ _).symm.trans H; with_reducible exact H2_) | with_reducible exact H | (rw [hy176]; exact H) | exact H
 have Ny176 := Aside0.mk hy176
 clear hy176
 replace H := ob_ H
 obtain ⟨t179, A20, H⟩ := H
 replace H : (some t179) = some r := H
 have A2 := Aside0.mk A20
 clear A20
 obtain rfl := Option.some.inj H
 go_enter Tryd.func20, Tryd.ntmps20
 go_wp2_with (first | ((with_reducible refine gate_dst (N := 4) rfl ?_); refine Kd.R_lit Kd.string _ 9 ?hg (N := 4) ?hd (xs := ([a0] : List ByteArray)) (inner := [.string a0]) (ok := fun _ => True) (okp := fun _ => True) ?hr ?hp (fun _ hk => hk) trivial (Below.refl _ _) (Nat.le_refl _) (by simp) ?_; (case hd => rfl); (case hg => rfl); (case hr => first | (go_simp; done) | (go_simp; rfl)); (case hp => exact (Reps.one (show Kd.M Kd.string _ _ _ a0 [.string a0] from rfl) (Reps.none _ _))); intro v177 w3 ho4 hb hg_ hnew_; clear hg_ hnew_; (first | rw [← Ny176.out] at ho4 | (simp only [Int.reduceToNat] at ho4; rw [← Ny176.out] at ho4)); have n0_ := Aside0.mk (Kd.R_lower ho4 (below_size (by repeat (first | (with_reducible first | exact HB.out | apply lA_ | apply lN_ | apply lD_) | exact HB.out)))); have n1_ := Aside0.mk (below_step (by repeat (first | (with_reducible first | exact HB.out | apply lA_ | apply lN_ | apply lD_) | exact HB.out)) hb); clear HB; have HO178 := n0_; have HB := n1_; clear n0_ n1_; clear hb ho4; obtain ⟨Ao5, co5, eo5⟩ := Kd.R_slice HO178.out; subst eo5) | ((with_reducible refine gate_callee (f := 36) rfl ?_); refine goesL_ (some 5) rfl rfl Tryd.func36 (by kernel_rfl) rfl #[.int .i64 7, .slice Ao5 y176.length co5] rfl (by (try simp only [gm_]); first | done | rfl | (simp only [gl_]; rfl)) ?_; (with_reducible refine (sha_Tag.calls k 7 _ _ y176 t179 _ ?side1 ?side2 ?side3 A2.out).mono ?_); (case side1 => repeat (first | exact (Kd.R_reads' HO178.out).2.2 | (with_reducible refine Kd.C_alloc ?_ _) | (with_reducible refine Kd.C_drewN ?_ _) | (with_reducible refine Kd.C_drew ?_))); (case side2 => exact (Kd.R_reads' HO178.out).2.1); (case side3 => repeat (first | exact (Kd.C_below HRG.out HB.out) | (with_reducible refine Kd.C_alloc ?_ _) | (with_reducible refine Kd.C_drewN ?_ _) | (with_reducible refine Kd.C_drew ?_))); rintro e w6 ⟨rfl, hb⟩; refine ⟨_, rfl, ?_⟩; have n0_ := Aside0.mk (Kd.R_below (by (with_reducible repeat (first | apply Kd.R_alloc | apply Kd.R_drewN | apply Kd.R_drew)); exact HO178.out) hb); have n1_ := Aside0.mk (below_step (by repeat (first | (with_reducible first | exact HB.out | apply lA_ | apply lN_ | apply lD_) | exact HB.out)) hb); clear HO178; clear HB; have HO178 := n0_; have HB := n1_; clear n0_ n1_; (try clear hb); (try clear hb2); (try clear hk); (try clear hi)))
 go_ret
 exact ⟨by first | rfl | (simp [errW_none, errW_some] <;> rfl) | (simp [*, errW_none, errW_some] <;> rfl), by repeat (first | (with_reducible first | exact HB.out | apply lA_ | apply lN_ | apply lD_) | exact HB.out)⟩

/-! ### palaverref02_Starts: function 76 -/
def palaverref02_Starts.f : Option Unit := some ()
set_option maxHeartbeats 8000000 in
set_option maxRecDepth 100000 in
theorem palaverref02_Starts.calls (w : World) (h : palaverref02_Starts.f = some ()) :
    Calls Tryd.prog 76 #[] w fun e w' => e = .returned (.agg #[.int .u32 1779033703, .int .u32 3144134277, .int .u32 1013904242, .int .u32 2773480762, .int .u32 1359893119, .int .u32 2600822924, .int .u32 528734635, .int .u32 1541459225]) ∧ Below w.heap.size w w' := by
  go_enter Tryd.func76, Tryd.ntmps76
  go_wp2_with (first
    | ((with_reducible refine gate_dst (N := 0) rfl ?_); refine Kd.event_run (w1 := w.alloc (.cells (encs (Value.int .u32) (List.replicate 8 0)).toArray 105)) (v := .pointer (some ⟨w.heap.size, 0, none⟩)) ?hg ?hr ?_; (case hg => rfl); (case hr => first | (go_simp; done) | (go_simp; rfl)); obtain ⟨W1, hW1⟩ : ∃ W1, W1 = w.alloc (.cells (encs (Value.int .u32) (List.replicate 8 0)).toArray 105) := ⟨_, rfl⟩; rw [← hW1]; have hh : W1.heap[w.heap.size]? = some (.cells (encs (Value.int .u32) (List.replicate 8 0)).toArray 105 (0, 0)) := (by rw [hW1]; exact heap_alloc_new w _); have hb : Below w.heap.size w W1 := (by rw [hW1]; exact below_alloc (Below.refl _ _) _); clear hW1)
    | ((with_reducible refine gate_store (t := 105) (p := 0) rfl ?_); refine store_event (t := 105) (p := 0) (v := ?vo) (w1 := W1.setCells w.heap.size 0 (encs (Value.int .u32) [1779033703, 3144134277, 1013904242, 2773480762, 1359893119, 2600822924, 528734635, 1541459225])) ?hg ?ho ?hn ?hr ?_; (case ho => rfl); (case hg => rfl); (case hn => rfl); (case hr => exact store_run0 [1779033703, 3144134277, 1013904242, 2773480762, 1359893119, 2600822924, 528734635, 1541459225] rfl rfl rfl (by kernel_rfl) hh (by rfl)); intro W2 hw; have hh2 := store_heap0 (encs (Value.int .u32) [1779033703, 3144134277, 1013904242, 2773480762, 1359893119, 2600822924, 528734635, 1541459225]) hh (by rfl); have hb2 := store_below0 (encs (Value.int .u32) [1779033703, 3144134277, 1013904242, 2773480762, 1359893119, 2600822924, 528734635, 1541459225]) hb (Nat.le_refl _); rw [← hw] at hh2 hb2; clear hw hh hb))
  (try simp only [Exit.inBlock, Exit.then])
  refine bodyPost_ret (results_cell_row rfl _ _ w.heap.size 105 (encs (Value.int .u32) [1779033703, 3144134277, 1013904242, 2773480762, 1359893119, 2600822924, 528734635, 1541459225]).toArray (0, 0) _ rfl hh2 Tryd.underlying105 rfl (by kernel_rfl)) rfl ?_
  exact ⟨rfl, hb2⟩

/-! ### palaverref02_table: function 77 -/
def palaverref02_table.f : Option Unit := some ()
set_option maxHeartbeats 8000000 in
set_option maxRecDepth 100000 in
theorem palaverref02_table.calls (w : World) (h : palaverref02_table.f = some ()) :
    Calls Tryd.prog 77 #[] w fun e w' => e = .returned (.agg #[.int .u32 1116352408, .int .u32 1899447441, .int .u32 3049323471, .int .u32 3921009573, .int .u32 961987163, .int .u32 1508970993, .int .u32 2453635748, .int .u32 2870763221, .int .u32 3624381080, .int .u32 310598401, .int .u32 607225278, .int .u32 1426881987, .int .u32 1925078388, .int .u32 2162078206, .int .u32 2614888103, .int .u32 3248222580, .int .u32 3835390401, .int .u32 4022224774, .int .u32 264347078, .int .u32 604807628, .int .u32 770255983, .int .u32 1249150122, .int .u32 1555081692, .int .u32 1996064986, .int .u32 2554220882, .int .u32 2821834349, .int .u32 2952996808, .int .u32 3210313671, .int .u32 3336571891, .int .u32 3584528711, .int .u32 113926993, .int .u32 338241895, .int .u32 666307205, .int .u32 773529912, .int .u32 1294757372, .int .u32 1396182291, .int .u32 1695183700, .int .u32 1986661051, .int .u32 2177026350, .int .u32 2456956037, .int .u32 2730485921, .int .u32 2820302411, .int .u32 3259730800, .int .u32 3345764771, .int .u32 3516065817, .int .u32 3600352804, .int .u32 4094571909, .int .u32 275423344, .int .u32 430227734, .int .u32 506948616, .int .u32 659060556, .int .u32 883997877, .int .u32 958139571, .int .u32 1322822218, .int .u32 1537002063, .int .u32 1747873779, .int .u32 1955562222, .int .u32 2024104815, .int .u32 2227730452, .int .u32 2361852424, .int .u32 2428436474, .int .u32 2756734187, .int .u32 3204031479, .int .u32 3329325298]) ∧ Below w.heap.size w w' := by
  go_enter Tryd.func77, Tryd.ntmps77
  go_wp2_with (first
    | ((with_reducible refine gate_dst (N := 0) rfl ?_); refine Kd.event_run (w1 := w.alloc (.cells (encs (Value.int .u32) (List.replicate 64 0)).toArray 113)) (v := .pointer (some ⟨w.heap.size, 0, none⟩)) ?hg ?hr ?_; (case hg => rfl); (case hr => first | (go_simp; done) | (go_simp; rfl)); obtain ⟨W1, hW1⟩ : ∃ W1, W1 = w.alloc (.cells (encs (Value.int .u32) (List.replicate 64 0)).toArray 113) := ⟨_, rfl⟩; rw [← hW1]; have hh : W1.heap[w.heap.size]? = some (.cells (encs (Value.int .u32) (List.replicate 64 0)).toArray 113 (0, 0)) := (by rw [hW1]; exact heap_alloc_new w _); have hb : Below w.heap.size w W1 := (by rw [hW1]; exact below_alloc (Below.refl _ _) _); clear hW1)
    | ((with_reducible refine gate_store (t := 113) (p := 0) rfl ?_); refine store_event (t := 113) (p := 0) (v := ?vo) (w1 := W1.setCells w.heap.size 0 (encs (Value.int .u32) [1116352408, 1899447441, 3049323471, 3921009573, 961987163, 1508970993, 2453635748, 2870763221, 3624381080, 310598401, 607225278, 1426881987, 1925078388, 2162078206, 2614888103, 3248222580, 3835390401, 4022224774, 264347078, 604807628, 770255983, 1249150122, 1555081692, 1996064986, 2554220882, 2821834349, 2952996808, 3210313671, 3336571891, 3584528711, 113926993, 338241895, 666307205, 773529912, 1294757372, 1396182291, 1695183700, 1986661051, 2177026350, 2456956037, 2730485921, 2820302411, 3259730800, 3345764771, 3516065817, 3600352804, 4094571909, 275423344, 430227734, 506948616, 659060556, 883997877, 958139571, 1322822218, 1537002063, 1747873779, 1955562222, 2024104815, 2227730452, 2361852424, 2428436474, 2756734187, 3204031479, 3329325298])) ?hg ?ho ?hn ?hr ?_; (case ho => rfl); (case hg => rfl); (case hn => rfl); (case hr => exact store_run0 [1116352408, 1899447441, 3049323471, 3921009573, 961987163, 1508970993, 2453635748, 2870763221, 3624381080, 310598401, 607225278, 1426881987, 1925078388, 2162078206, 2614888103, 3248222580, 3835390401, 4022224774, 264347078, 604807628, 770255983, 1249150122, 1555081692, 1996064986, 2554220882, 2821834349, 2952996808, 3210313671, 3336571891, 3584528711, 113926993, 338241895, 666307205, 773529912, 1294757372, 1396182291, 1695183700, 1986661051, 2177026350, 2456956037, 2730485921, 2820302411, 3259730800, 3345764771, 3516065817, 3600352804, 4094571909, 275423344, 430227734, 506948616, 659060556, 883997877, 958139571, 1322822218, 1537002063, 1747873779, 1955562222, 2024104815, 2227730452, 2361852424, 2428436474, 2756734187, 3204031479, 3329325298] rfl rfl rfl (by kernel_rfl) hh (by rfl)); intro W2 hw; have hh2 := store_heap0 (encs (Value.int .u32) [1116352408, 1899447441, 3049323471, 3921009573, 961987163, 1508970993, 2453635748, 2870763221, 3624381080, 310598401, 607225278, 1426881987, 1925078388, 2162078206, 2614888103, 3248222580, 3835390401, 4022224774, 264347078, 604807628, 770255983, 1249150122, 1555081692, 1996064986, 2554220882, 2821834349, 2952996808, 3210313671, 3336571891, 3584528711, 113926993, 338241895, 666307205, 773529912, 1294757372, 1396182291, 1695183700, 1986661051, 2177026350, 2456956037, 2730485921, 2820302411, 3259730800, 3345764771, 3516065817, 3600352804, 4094571909, 275423344, 430227734, 506948616, 659060556, 883997877, 958139571, 1322822218, 1537002063, 1747873779, 1955562222, 2024104815, 2227730452, 2361852424, 2428436474, 2756734187, 3204031479, 3329325298]) hh (by rfl); have hb2 := store_below0 (encs (Value.int .u32) [1116352408, 1899447441, 3049323471, 3921009573, 961987163, 1508970993, 2453635748, 2870763221, 3624381080, 310598401, 607225278, 1426881987, 1925078388, 2162078206, 2614888103, 3248222580, 3835390401, 4022224774, 264347078, 604807628, 770255983, 1249150122, 1555081692, 1996064986, 2554220882, 2821834349, 2952996808, 3210313671, 3336571891, 3584528711, 113926993, 338241895, 666307205, 773529912, 1294757372, 1396182291, 1695183700, 1986661051, 2177026350, 2456956037, 2730485921, 2820302411, 3259730800, 3345764771, 3516065817, 3600352804, 4094571909, 275423344, 430227734, 506948616, 659060556, 883997877, 958139571, 1322822218, 1537002063, 1747873779, 1955562222, 2024104815, 2227730452, 2361852424, 2428436474, 2756734187, 3204031479, 3329325298]) hb (Nat.le_refl _); rw [← hw] at hh2 hb2; clear hw hh hb))
  (try simp only [Exit.inBlock, Exit.then])
  refine bodyPost_ret (results_cell_row rfl _ _ w.heap.size 113 (encs (Value.int .u32) [1116352408, 1899447441, 3049323471, 3921009573, 961987163, 1508970993, 2453635748, 2870763221, 3624381080, 310598401, 607225278, 1426881987, 1925078388, 2162078206, 2614888103, 3248222580, 3835390401, 4022224774, 264347078, 604807628, 770255983, 1249150122, 1555081692, 1996064986, 2554220882, 2821834349, 2952996808, 3210313671, 3336571891, 3584528711, 113926993, 338241895, 666307205, 773529912, 1294757372, 1396182291, 1695183700, 1986661051, 2177026350, 2456956037, 2730485921, 2820302411, 3259730800, 3345764771, 3516065817, 3600352804, 4094571909, 275423344, 430227734, 506948616, 659060556, 883997877, 958139571, 1322822218, 1537002063, 1747873779, 1955562222, 2024104815, 2227730452, 2361852424, 2428436474, 2756734187, 3204031479, 3329325298]).toArray (0, 0) _ rfl hh2 Tryd.underlying113 rfl (by kernel_rfl)) rfl ?_
  exact ⟨rfl, hb2⟩

/-! ### palaverref02_Padded: function 78 (walked by hand) -/
/-- How many zeros. -/
def palaverref02_Padded.zs (n : Nat) : Nat := (64 - (n + 9) % 64) % 64
/-- The length in bits, as eight bytes. -/
def palaverref02_Padded.be (n : Int) (i : Nat) : Int := n / 256 ^ (7 - i) % 256
def palaverref02_Padded.f (k : Nat) (a0 : ByteArray) : Option ByteArray :=
  if a0.size ≤ 140737488355000 then some (strOfNums (((bytesOf a0 ++ [128]) ++ List.replicate (palaverref02_Padded.zs a0.size) 0) ++ (List.range 8).map (palaverref02_Padded.be (8 * (a0.size : Int))))) else none
theorem palaverref02_Padded.mono : ∀ a0 k, LeO (palaverref02_Padded.f k a0) (palaverref02_Padded.f (k + 1) a0) := fun _ _ => LeO.refl _
theorem palaverref02_Padded.test (n : Nat) (hn : n ≤ 140737488355000) (j : Int) (h0 : 0 ≤ j) (h1 : j ≤ (palaverref02_Padded.zs n : Int)) : (j < (palaverref02_Padded.zs n : Int) → ¬ ((n : Int) + 1 + j + 8) % 64 = 0) ∧ (j = (palaverref02_Padded.zs n : Int) → ((n : Int) + 1 + j + 8) % 64 = 0) := by
  unfold palaverref02_Padded.zs at *
  omega
theorem palaverref02_Padded.next {xs pre : List Int} {n : Int} (i : Nat) (c : Int) (h : xs = pre ++ (List.range i).map (palaverref02_Padded.be n)) (hc : c = palaverref02_Padded.be n i := by rfl) : xs ++ [c] = pre ++ (List.range (i + 1)).map (palaverref02_Padded.be n) := by
  rw [List.range_succ, List.map_append, List.map_cons, List.map_nil, ← List.append_assoc, ← hc, ← h]
set_option maxHeartbeats 8000000 in
set_option maxRecDepth 100000 in
theorem palaverref02_Padded.calls (k : Nat) (a0 : ByteArray) (r : ByteArray) (w : World) (h : palaverref02_Padded.f k a0 = some r) :
    Calls Tryd.prog 78 #[.string a0] w fun e w' => e = .returned (.string r) ∧ Below w.heap.size w w' := by
  unfold palaverref02_Padded.f at h
  have hn : a0.size ≤ 140737488355000 := by
    by_cases hh : a0.size ≤ 140737488355000
    · exact hh
    · rw [if_neg hh] at h; cases h
  rw [if_pos hn] at h
  have HRr := Aside0.mk (Option.some.inj h)
  have HN := Aside0.mk hn
  obtain ⟨i0, hi, hz0, hz1, hz2⟩ := info_parts (show (Tryd.prog.info? 5).map (fun i => (i.zero, i.size, i.bytes)) = some (some (.int .u8 0), 1, 1) by kernel_rfl)
  have hu : IntKind.u64.wrap (a0.size : Int) = (a0.size : Int) := by simp only [IntKind.wrap, IntKind.bits, IntKind.signed]; simp; omega
  have hu8 : IntKind.u64.wrap (8 * (a0.size : Int)) = 8 * (a0.size : Int) := by simp only [IntKind.wrap, IntKind.bits, IntKind.signed]; simp; omega
  have hz : palaverref02_Padded.zs a0.size < 64 := by unfold palaverref02_Padded.zs; omega
  clear h hn
  go_enter Tryd.func78, Tryd.ntmps78
  go_wp2
  go_loopg [4] (palaverref02_Padded.zs a0.size) (fun kq v4 w' => ∃ x : Int, v4 = .int .i64 x ∧ Aside0 (0 ≤ x ∧ x + (kq : Int) = (palaverref02_Padded.zs a0.size : Int)) ∧ Aside0 (Below w.heap.size w w'))
  case atStart => exact ⟨0, rfl, ⟨by omega⟩, ⟨Below.refl _ _⟩⟩
  case round =>
    obtain ⟨x, rfl, HP, HB⟩ := hrel
    have hx := HP.out
    have hx0 : 0 ≤ x := hx.1
    have hx1 : x ≤ 63 := by omega
    have hn1 : (a0.size : Int) ≤ 140737488355000 := by have := HN.out; omega
    have ht := palaverref02_Padded.test a0.size HN.out x hx.1 (by omega)
    cases gk with
    | zero =>
      have hc := ht.2 (by omega)
      obtain rfl : x = (palaverref02_Padded.zs a0.size : Int) := by omega
      clear ht hx HP
      go_wp2_with (first | ((with_reducible refine gate_dst (N := 22) rfl ?_); refine convM_event (P := Tryd.prog) rfl (N := 22) rfl 9 42 5 _ rfl a0 rfl w.heap.size (below_size HB.out) Tryd.underlying9 Tryd.underlying42 Tryd.underlying5 (by have := HN.out; omega) ?_; intro v1 w1 hv hb; have HM := Aside0.mk hv; have n0_ := Aside0.mk (below_step HB.out hb); clear HB hv hb; have HB := n0_; clear n0_) | ((with_reducible refine gate_dst (N := 23) rfl ?_); refine Kd.event_run (w1 := w1.alloc (.cells (encs (Value.int .u8) [128]).toArray 5)) (v := .slice (some ⟨w1.heap.size, 0, none⟩) 1 1) ?hg ?hr ?_; (case hg => rfl); (case hr => first | (go_simp; done) | (go_simp; rfl)); have HC := Aside0.mk (lit_cells w1 (128) 5); have hbA := below_alloc (Below.refl w1.heap.size w1) (.cells (encs (Value.int .u8) [128]).toArray 5); have m0_ := Aside0.mk (HM.out.below hbA); have n0_ := Aside0.mk (below_step HB.out hbA); clear HM HB hbA; have HM := m0_; have HB := n0_; clear m0_ n0_; obtain ⟨w2, hw_⟩ : ∃ z_, z_ = w1.alloc (.cells (encs (Value.int .u8) [128]).toArray 5) := ⟨_, rfl⟩; rw [← hw_] at HM HB HC; rw [← hw_]; clear hw_) | ((with_reducible refine gate_dst (N := 24) rfl ?_); refine appendM_event (P := Tryd.prog) (base := w.heap.size) (w0 := w) rfl (N := 24) rfl _ _ 42 42 5 i0 rfl rfl Tryd.underlying42 hi hz0 hz1 hz2 rfl HM.out (below_size HB.out) HB.out ⟨w1.heap.size, 0, none⟩ 1 [128] 1 rfl rfl HC.out (by have := HN.out; simp [bytesOf_length] <;> omega) ?_; intro v3 w3 hv hb; have m0_ := Aside0.mk hv; have n0_ := Aside0.mk hb; clear HM HB HC hv hb; have HM := m0_; have HB := n0_; clear m0_ n0_) | ((with_reducible refine gate_dst (N := 27) rfl ?_); refine appendZ_event (P := Tryd.prog) (base := w.heap.size) (w0 := w) rfl (N := 27) rfl _ _ 42 3 42 5 i0 rfl rfl Tryd.underlying42 Tryd.underlying3 hi hz0 hz1 hz2 rfl HM.out (below_size HB.out) HB.out .i64 (palaverref02_Padded.zs a0.size) rfl (by have := HN.out; simp [bytesOf_length] <;> omega) ?_; intro v4_ w4 hv hb; have m0_ := Aside0.mk hv; have n0_ := Aside0.mk hb; clear HM HB hv hb; have HM := m0_; have HB := n0_; clear m0_ n0_))
      go_loopg [5, 6] 8 (fun kq v5 v6 w' => ∃ (i : Nat) (xs : List Int), v6 = .int .i64 i ∧ Aside0 (i + kq = 8) ∧ Aside0 (xs = ((bytesOf a0 ++ [128]) ++ List.replicate (palaverref02_Padded.zs a0.size) 0) ++ (List.range i).map (palaverref02_Padded.be (8 * (a0.size : Int)))) ∧ Aside0 (OwnM w' w.heap.size 5 v5 xs) ∧ Aside0 (Below w.heap.size w w'))
      case atStart => exact ⟨0, _, rfl, ⟨rfl⟩, ⟨by rw [List.range_zero, List.map_nil, List.append_nil]⟩, ⟨HM.out⟩, ⟨HB.out⟩⟩
      case round =>
        obtain ⟨i, xs, rfl, HP, HX, HM, HB⟩ := hrel
        have hxl : xs.length ≤ 140737488355200 := by have := HN.out; rw [HX.out]; simp [bytesOf_length] <;> (have := HP.out; omega)
        have HXL := Aside0.mk hxl
        clear hxl
        cases gk with
        | zero =>
          obtain rfl : i = 8 := by have := HP.out; omega
          obtain ⟨g, cap, rfl, hg, hC⟩ := HM.out.reads
          have hconv := Kd.C_string (P := Tryd.prog) Tryd.underlying42 Tryd.underlying5 Tryd.underlying9 (c := cap) hC
          go_wp2
          go_ret
          exact ⟨congrArg (fun z_ => Ending.returned (Value.string z_)) ((congrArg strOfNums HX.out).trans HRr.out), HB.out⟩
        | succ k1 =>
          have hi7 : i = 0 ∨ i = 1 ∨ i = 2 ∨ i = 3 ∨ i = 4 ∨ i = 5 ∨ i = 6 ∨ i = 7 := by have := HP.out; omega
          have hk := HP.out
          rcases hi7 with rfl | rfl | rfl | rfl | rfl | rfl | rfl | rfl
          · go_wp2_with (first | ((with_reducible refine gate_dst (N := 42) rfl ?_); refine Kd.event_run (w1 := wr.alloc (.cells (encs (Value.int .u8) [(8 * (a0.size : Int)) / 72057594037927936 % 256]).toArray 5)) (v := .slice (some ⟨wr.heap.size, 0, none⟩) 1 1) ?hg ?hr ?_; (case hg => rfl); (case hr => first | (go_simp; done) | (go_simp; rfl)); have HC := Aside0.mk (lit_cells wr ((8 * (a0.size : Int)) / 72057594037927936 % 256) 5); have hbA := below_alloc (Below.refl wr.heap.size wr) (.cells (encs (Value.int .u8) [(8 * (a0.size : Int)) / 72057594037927936 % 256]).toArray 5); have m0_ := Aside0.mk (HM.out.below hbA); have n0_ := Aside0.mk (below_step HB.out hbA); clear HM HB hbA; have HM := m0_; have HB := n0_; clear m0_ n0_; obtain ⟨w5, hw_⟩ : ∃ z_, z_ = wr.alloc (.cells (encs (Value.int .u8) [(8 * (a0.size : Int)) / 72057594037927936 % 256]).toArray 5) := ⟨_, rfl⟩; rw [← hw_] at HM HB HC; rw [← hw_]; clear hw_) | ((with_reducible refine gate_dst (N := 43) rfl ?_); refine appendM_event (P := Tryd.prog) (base := w.heap.size) (w0 := w) rfl (N := 43) rfl _ _ 42 42 5 i0 rfl rfl Tryd.underlying42 hi hz0 hz1 hz2 rfl HM.out (below_size HB.out) HB.out ⟨wr.heap.size, 0, none⟩ 1 [(8 * (a0.size : Int)) / 72057594037927936 % 256] 1 rfl rfl HC.out (by have := HXL.out; simp <;> omega) ?_; intro v6_ w6 hv hb; have m0_ := Aside0.mk hv; have n0_ := Aside0.mk hb; clear HM HB HC hv hb; have HM := m0_; have HB := n0_; clear m0_ n0_))
            go_roundg k1
            case measure => omega
            case rel => exact ⟨1, _, rfl, ⟨by omega⟩, ⟨palaverref02_Padded.next 0 _ HX.out⟩, ⟨HM.out⟩, ⟨HB.out⟩⟩
          · go_wp2_with (first | ((with_reducible refine gate_dst (N := 42) rfl ?_); refine Kd.event_run (w1 := wr.alloc (.cells (encs (Value.int .u8) [(8 * (a0.size : Int)) / 281474976710656 % 256]).toArray 5)) (v := .slice (some ⟨wr.heap.size, 0, none⟩) 1 1) ?hg ?hr ?_; (case hg => rfl); (case hr => first | (go_simp; done) | (go_simp; rfl)); have HC := Aside0.mk (lit_cells wr ((8 * (a0.size : Int)) / 281474976710656 % 256) 5); have hbA := below_alloc (Below.refl wr.heap.size wr) (.cells (encs (Value.int .u8) [(8 * (a0.size : Int)) / 281474976710656 % 256]).toArray 5); have m0_ := Aside0.mk (HM.out.below hbA); have n0_ := Aside0.mk (below_step HB.out hbA); clear HM HB hbA; have HM := m0_; have HB := n0_; clear m0_ n0_; obtain ⟨w5, hw_⟩ : ∃ z_, z_ = wr.alloc (.cells (encs (Value.int .u8) [(8 * (a0.size : Int)) / 281474976710656 % 256]).toArray 5) := ⟨_, rfl⟩; rw [← hw_] at HM HB HC; rw [← hw_]; clear hw_) | ((with_reducible refine gate_dst (N := 43) rfl ?_); refine appendM_event (P := Tryd.prog) (base := w.heap.size) (w0 := w) rfl (N := 43) rfl _ _ 42 42 5 i0 rfl rfl Tryd.underlying42 hi hz0 hz1 hz2 rfl HM.out (below_size HB.out) HB.out ⟨wr.heap.size, 0, none⟩ 1 [(8 * (a0.size : Int)) / 281474976710656 % 256] 1 rfl rfl HC.out (by have := HXL.out; simp <;> omega) ?_; intro v6_ w6 hv hb; have m0_ := Aside0.mk hv; have n0_ := Aside0.mk hb; clear HM HB HC hv hb; have HM := m0_; have HB := n0_; clear m0_ n0_))
            go_roundg k1
            case measure => omega
            case rel => exact ⟨2, _, rfl, ⟨by omega⟩, ⟨palaverref02_Padded.next 1 _ HX.out⟩, ⟨HM.out⟩, ⟨HB.out⟩⟩
          · go_wp2_with (first | ((with_reducible refine gate_dst (N := 42) rfl ?_); refine Kd.event_run (w1 := wr.alloc (.cells (encs (Value.int .u8) [(8 * (a0.size : Int)) / 1099511627776 % 256]).toArray 5)) (v := .slice (some ⟨wr.heap.size, 0, none⟩) 1 1) ?hg ?hr ?_; (case hg => rfl); (case hr => first | (go_simp; done) | (go_simp; rfl)); have HC := Aside0.mk (lit_cells wr ((8 * (a0.size : Int)) / 1099511627776 % 256) 5); have hbA := below_alloc (Below.refl wr.heap.size wr) (.cells (encs (Value.int .u8) [(8 * (a0.size : Int)) / 1099511627776 % 256]).toArray 5); have m0_ := Aside0.mk (HM.out.below hbA); have n0_ := Aside0.mk (below_step HB.out hbA); clear HM HB hbA; have HM := m0_; have HB := n0_; clear m0_ n0_; obtain ⟨w5, hw_⟩ : ∃ z_, z_ = wr.alloc (.cells (encs (Value.int .u8) [(8 * (a0.size : Int)) / 1099511627776 % 256]).toArray 5) := ⟨_, rfl⟩; rw [← hw_] at HM HB HC; rw [← hw_]; clear hw_) | ((with_reducible refine gate_dst (N := 43) rfl ?_); refine appendM_event (P := Tryd.prog) (base := w.heap.size) (w0 := w) rfl (N := 43) rfl _ _ 42 42 5 i0 rfl rfl Tryd.underlying42 hi hz0 hz1 hz2 rfl HM.out (below_size HB.out) HB.out ⟨wr.heap.size, 0, none⟩ 1 [(8 * (a0.size : Int)) / 1099511627776 % 256] 1 rfl rfl HC.out (by have := HXL.out; simp <;> omega) ?_; intro v6_ w6 hv hb; have m0_ := Aside0.mk hv; have n0_ := Aside0.mk hb; clear HM HB HC hv hb; have HM := m0_; have HB := n0_; clear m0_ n0_))
            go_roundg k1
            case measure => omega
            case rel => exact ⟨3, _, rfl, ⟨by omega⟩, ⟨palaverref02_Padded.next 2 _ HX.out⟩, ⟨HM.out⟩, ⟨HB.out⟩⟩
          · go_wp2_with (first | ((with_reducible refine gate_dst (N := 42) rfl ?_); refine Kd.event_run (w1 := wr.alloc (.cells (encs (Value.int .u8) [(8 * (a0.size : Int)) / 4294967296 % 256]).toArray 5)) (v := .slice (some ⟨wr.heap.size, 0, none⟩) 1 1) ?hg ?hr ?_; (case hg => rfl); (case hr => first | (go_simp; done) | (go_simp; rfl)); have HC := Aside0.mk (lit_cells wr ((8 * (a0.size : Int)) / 4294967296 % 256) 5); have hbA := below_alloc (Below.refl wr.heap.size wr) (.cells (encs (Value.int .u8) [(8 * (a0.size : Int)) / 4294967296 % 256]).toArray 5); have m0_ := Aside0.mk (HM.out.below hbA); have n0_ := Aside0.mk (below_step HB.out hbA); clear HM HB hbA; have HM := m0_; have HB := n0_; clear m0_ n0_; obtain ⟨w5, hw_⟩ : ∃ z_, z_ = wr.alloc (.cells (encs (Value.int .u8) [(8 * (a0.size : Int)) / 4294967296 % 256]).toArray 5) := ⟨_, rfl⟩; rw [← hw_] at HM HB HC; rw [← hw_]; clear hw_) | ((with_reducible refine gate_dst (N := 43) rfl ?_); refine appendM_event (P := Tryd.prog) (base := w.heap.size) (w0 := w) rfl (N := 43) rfl _ _ 42 42 5 i0 rfl rfl Tryd.underlying42 hi hz0 hz1 hz2 rfl HM.out (below_size HB.out) HB.out ⟨wr.heap.size, 0, none⟩ 1 [(8 * (a0.size : Int)) / 4294967296 % 256] 1 rfl rfl HC.out (by have := HXL.out; simp <;> omega) ?_; intro v6_ w6 hv hb; have m0_ := Aside0.mk hv; have n0_ := Aside0.mk hb; clear HM HB HC hv hb; have HM := m0_; have HB := n0_; clear m0_ n0_))
            go_roundg k1
            case measure => omega
            case rel => exact ⟨4, _, rfl, ⟨by omega⟩, ⟨palaverref02_Padded.next 3 _ HX.out⟩, ⟨HM.out⟩, ⟨HB.out⟩⟩
          · go_wp2_with (first | ((with_reducible refine gate_dst (N := 42) rfl ?_); refine Kd.event_run (w1 := wr.alloc (.cells (encs (Value.int .u8) [(8 * (a0.size : Int)) / 16777216 % 256]).toArray 5)) (v := .slice (some ⟨wr.heap.size, 0, none⟩) 1 1) ?hg ?hr ?_; (case hg => rfl); (case hr => first | (go_simp; done) | (go_simp; rfl)); have HC := Aside0.mk (lit_cells wr ((8 * (a0.size : Int)) / 16777216 % 256) 5); have hbA := below_alloc (Below.refl wr.heap.size wr) (.cells (encs (Value.int .u8) [(8 * (a0.size : Int)) / 16777216 % 256]).toArray 5); have m0_ := Aside0.mk (HM.out.below hbA); have n0_ := Aside0.mk (below_step HB.out hbA); clear HM HB hbA; have HM := m0_; have HB := n0_; clear m0_ n0_; obtain ⟨w5, hw_⟩ : ∃ z_, z_ = wr.alloc (.cells (encs (Value.int .u8) [(8 * (a0.size : Int)) / 16777216 % 256]).toArray 5) := ⟨_, rfl⟩; rw [← hw_] at HM HB HC; rw [← hw_]; clear hw_) | ((with_reducible refine gate_dst (N := 43) rfl ?_); refine appendM_event (P := Tryd.prog) (base := w.heap.size) (w0 := w) rfl (N := 43) rfl _ _ 42 42 5 i0 rfl rfl Tryd.underlying42 hi hz0 hz1 hz2 rfl HM.out (below_size HB.out) HB.out ⟨wr.heap.size, 0, none⟩ 1 [(8 * (a0.size : Int)) / 16777216 % 256] 1 rfl rfl HC.out (by have := HXL.out; simp <;> omega) ?_; intro v6_ w6 hv hb; have m0_ := Aside0.mk hv; have n0_ := Aside0.mk hb; clear HM HB HC hv hb; have HM := m0_; have HB := n0_; clear m0_ n0_))
            go_roundg k1
            case measure => omega
            case rel => exact ⟨5, _, rfl, ⟨by omega⟩, ⟨palaverref02_Padded.next 4 _ HX.out⟩, ⟨HM.out⟩, ⟨HB.out⟩⟩
          · go_wp2_with (first | ((with_reducible refine gate_dst (N := 42) rfl ?_); refine Kd.event_run (w1 := wr.alloc (.cells (encs (Value.int .u8) [(8 * (a0.size : Int)) / 65536 % 256]).toArray 5)) (v := .slice (some ⟨wr.heap.size, 0, none⟩) 1 1) ?hg ?hr ?_; (case hg => rfl); (case hr => first | (go_simp; done) | (go_simp; rfl)); have HC := Aside0.mk (lit_cells wr ((8 * (a0.size : Int)) / 65536 % 256) 5); have hbA := below_alloc (Below.refl wr.heap.size wr) (.cells (encs (Value.int .u8) [(8 * (a0.size : Int)) / 65536 % 256]).toArray 5); have m0_ := Aside0.mk (HM.out.below hbA); have n0_ := Aside0.mk (below_step HB.out hbA); clear HM HB hbA; have HM := m0_; have HB := n0_; clear m0_ n0_; obtain ⟨w5, hw_⟩ : ∃ z_, z_ = wr.alloc (.cells (encs (Value.int .u8) [(8 * (a0.size : Int)) / 65536 % 256]).toArray 5) := ⟨_, rfl⟩; rw [← hw_] at HM HB HC; rw [← hw_]; clear hw_) | ((with_reducible refine gate_dst (N := 43) rfl ?_); refine appendM_event (P := Tryd.prog) (base := w.heap.size) (w0 := w) rfl (N := 43) rfl _ _ 42 42 5 i0 rfl rfl Tryd.underlying42 hi hz0 hz1 hz2 rfl HM.out (below_size HB.out) HB.out ⟨wr.heap.size, 0, none⟩ 1 [(8 * (a0.size : Int)) / 65536 % 256] 1 rfl rfl HC.out (by have := HXL.out; simp <;> omega) ?_; intro v6_ w6 hv hb; have m0_ := Aside0.mk hv; have n0_ := Aside0.mk hb; clear HM HB HC hv hb; have HM := m0_; have HB := n0_; clear m0_ n0_))
            go_roundg k1
            case measure => omega
            case rel => exact ⟨6, _, rfl, ⟨by omega⟩, ⟨palaverref02_Padded.next 5 _ HX.out⟩, ⟨HM.out⟩, ⟨HB.out⟩⟩
          · go_wp2_with (first | ((with_reducible refine gate_dst (N := 42) rfl ?_); refine Kd.event_run (w1 := wr.alloc (.cells (encs (Value.int .u8) [(8 * (a0.size : Int)) / 256 % 256]).toArray 5)) (v := .slice (some ⟨wr.heap.size, 0, none⟩) 1 1) ?hg ?hr ?_; (case hg => rfl); (case hr => first | (go_simp; done) | (go_simp; rfl)); have HC := Aside0.mk (lit_cells wr ((8 * (a0.size : Int)) / 256 % 256) 5); have hbA := below_alloc (Below.refl wr.heap.size wr) (.cells (encs (Value.int .u8) [(8 * (a0.size : Int)) / 256 % 256]).toArray 5); have m0_ := Aside0.mk (HM.out.below hbA); have n0_ := Aside0.mk (below_step HB.out hbA); clear HM HB hbA; have HM := m0_; have HB := n0_; clear m0_ n0_; obtain ⟨w5, hw_⟩ : ∃ z_, z_ = wr.alloc (.cells (encs (Value.int .u8) [(8 * (a0.size : Int)) / 256 % 256]).toArray 5) := ⟨_, rfl⟩; rw [← hw_] at HM HB HC; rw [← hw_]; clear hw_) | ((with_reducible refine gate_dst (N := 43) rfl ?_); refine appendM_event (P := Tryd.prog) (base := w.heap.size) (w0 := w) rfl (N := 43) rfl _ _ 42 42 5 i0 rfl rfl Tryd.underlying42 hi hz0 hz1 hz2 rfl HM.out (below_size HB.out) HB.out ⟨wr.heap.size, 0, none⟩ 1 [(8 * (a0.size : Int)) / 256 % 256] 1 rfl rfl HC.out (by have := HXL.out; simp <;> omega) ?_; intro v6_ w6 hv hb; have m0_ := Aside0.mk hv; have n0_ := Aside0.mk hb; clear HM HB HC hv hb; have HM := m0_; have HB := n0_; clear m0_ n0_))
            go_roundg k1
            case measure => omega
            case rel => exact ⟨7, _, rfl, ⟨by omega⟩, ⟨palaverref02_Padded.next 6 _ HX.out⟩, ⟨HM.out⟩, ⟨HB.out⟩⟩
          · go_wp2_with (first | ((with_reducible refine gate_dst (N := 42) rfl ?_); refine Kd.event_run (w1 := wr.alloc (.cells (encs (Value.int .u8) [(8 * (a0.size : Int)) / 1 % 256]).toArray 5)) (v := .slice (some ⟨wr.heap.size, 0, none⟩) 1 1) ?hg ?hr ?_; (case hg => rfl); (case hr => first | (go_simp; done) | (go_simp; rfl)); have HC := Aside0.mk (lit_cells wr ((8 * (a0.size : Int)) / 1 % 256) 5); have hbA := below_alloc (Below.refl wr.heap.size wr) (.cells (encs (Value.int .u8) [(8 * (a0.size : Int)) / 1 % 256]).toArray 5); have m0_ := Aside0.mk (HM.out.below hbA); have n0_ := Aside0.mk (below_step HB.out hbA); clear HM HB hbA; have HM := m0_; have HB := n0_; clear m0_ n0_; obtain ⟨w5, hw_⟩ : ∃ z_, z_ = wr.alloc (.cells (encs (Value.int .u8) [(8 * (a0.size : Int)) / 1 % 256]).toArray 5) := ⟨_, rfl⟩; rw [← hw_] at HM HB HC; rw [← hw_]; clear hw_) | ((with_reducible refine gate_dst (N := 43) rfl ?_); refine appendM_event (P := Tryd.prog) (base := w.heap.size) (w0 := w) rfl (N := 43) rfl _ _ 42 42 5 i0 rfl rfl Tryd.underlying42 hi hz0 hz1 hz2 rfl HM.out (below_size HB.out) HB.out ⟨wr.heap.size, 0, none⟩ 1 [(8 * (a0.size : Int)) / 1 % 256] 1 rfl rfl HC.out (by have := HXL.out; simp <;> omega) ?_; intro v6_ w6 hv hb; have m0_ := Aside0.mk hv; have n0_ := Aside0.mk hb; clear HM HB HC hv hb; have HM := m0_; have HB := n0_; clear m0_ n0_))
            go_roundg k1
            case measure => omega
            case rel => exact ⟨8, _, rfl, ⟨by omega⟩, ⟨palaverref02_Padded.next 7 _ HX.out⟩, ⟨HM.out⟩, ⟨HB.out⟩⟩
    | succ k1 =>
      have hc : (((a0.size : Int) + 1 + x + 8) % 64 != 0) = true := bne_iff_ne.mpr (ht.1 (by omega))
      clear ht hx
      go_wp2
      go_roundg k1
      case measure => omega
      case rel => exact ⟨x + 1, rfl, ⟨by have := HP.out; omega⟩, ⟨HB.out⟩⟩

/-! ### palaverref02_turn: function 79 -/
def palaverref02_turn.f (a0 : Int) (a1 : Int) : Option (Int) := if 0 ≤ a1 then (some (Go.bits .or .u32 (shr .u32 a0 a1) (shl .u32 a0 ((32 - a1) % 4294967296)))) else (none)
set_option maxHeartbeats 64000000 in
set_option maxRecDepth 100000 in
theorem palaverref02_turn.calls (a0 : Int) (a1 : Int) (r : Int) (w : World) (h : palaverref02_turn.f a0 a1 = some r) :
 Calls Tryd.prog 79 #[.int .u32 a0, .int .u32 a1] w fun e w' => e = .returned (.int .u32 r) ∧ Drawn0 w w' := by
 have H : (if 0 ≤ a1 then (some (Go.bits .or .u32 (shr .u32 a0 a1) (shl .u32 a0 ((32 - a1) % 4294967296)))) else (none)) = some r := h
 clear h
 by_cases c3 : 0 ≤ a1
 rotate_left
 ·rw [if_neg c3] at H
  exact absurd H (by simp)
 rw [if_pos c3] at H
 have c3b0 := eq_true c3
 have c3b1 : decide (0 ≤ a1) = true := decide_eq_true c3
 clear c3
 obtain ⟨ji4, hji4⟩ : ∃ j_ : Int, (shr .u32 a0 a1) = j_ := ⟨_, rfl⟩
 replace H : (some (Go.bits .or .u32 (ji4) (shl .u32 a0 ((32 - a1) % 4294967296)))) = some r := by first | (rw [hji4] at H; exact H) | (simp only [hji4] at H ⊢; exact H)
 have hji4_ : (a0 / 2 ^ min a1.toNat 32) = ji4 := hji4
 have hji4z : a1 ≤ 32 → (a0 / 2 ^ a1.toNat) = ji4 := shr_small hji4
 (try (have hji4n : (0 ≤ a1) = True := eq_true (by omega)))
 obtain ⟨ji5, hji5⟩ : ∃ j_ : Int, (shl .u32 a0 ((32 - a1) % 4294967296)) = j_ := ⟨_, rfl⟩
 replace H : (some (Go.bits .or .u32 (ji4) (ji5))) = some r := by first | (rw [hji5] at H; exact H) | (simp only [hji5] at H ⊢; exact H)
 have hji5_ : (IntKind.u32.wrap (a0 * 2 ^ min ((32 - a1) % 4294967296).toNat 32)) = ji5 := hji5
 have hji5z : ((32 - a1) % 4294967296) ≤ 32 → (IntKind.u32.wrap (a0 * 2 ^ ((32 - a1) % 4294967296).toNat)) = ji5 := shl_small hji5
 (try (have hji5n : (0 ≤ ((32 - a1) % 4294967296)) = True := eq_true (by omega)))
 obtain rfl := Option.some.inj H
 go_enter Tryd.func79, Tryd.ntmps79
 go_wp2
 go_ret
 exact ⟨by first | rfl | (simp; done) | (simp only [← hji4, ← hji5] <;> (first | rfl | simp)) | (simp [*]; done) | exact congrArg Value.bool (nonempty_l _) | (refine congrArg (Value.int _) ?_; first | omega | (unfold wrap64; omega)), by repeat (first | exact Drawn0.refl _ | apply Drawn0.step)⟩

end Go.Proofs.YtmedpnclkbkiiaaDoor.PP
