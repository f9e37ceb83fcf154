-- WRITTEN BY a program of this work (wip/ownprint.py), for this seat
import Derived.Test.YtmnppogihmhdgaaDoorPPx0
import Derived.Test.YtmnppogihmhdgaaDoorPPx2
import Derived.Test.YtmnppogihmhdgaaDoorPPx3
namespace Go.Proofs.YtmnppogihmhdgaaDoor.PP
open Go.RowKit Go.Proofs.YtmnppogihmhdgaaDoorW.PrintWords Go.Proofs.YtmnppogihmhdgaaDoorW.PrintLast Go.Proofs.YtmnppogihmhdgaaDoorW.PrintMore
attribute [local go_sem] max2_int min2_int max_two min_two max_three min_three max_four min_four   -- for this text's walks alone
set_option linter.unusedVariables false
set_option linter.unusedSimpArgs false

/-! ### sha_Sum: function 31 -/
mutual
def sha_Sum.l0 : Nat → ByteArray → List Int → Int → Option (ByteArray)
 | 0, _, _, _ => none
 | k + 1, x0, x3, x4 => if (x0.size : Int) ≥ 64 then (if 0 ≤ 64 then (if 64 ≤ (x0.size : Int) then ((sha_state_block.f k x3 (x0.extract 0 64)).bind fun t137 => (sha_Sum.l0 k (x0.extract 64 x0.size) t137 x4)) else (none)) else (none)) else ((some (List.replicate 128 0 : List Int)).bind fun y138 => (if y138.length = 128 then (if 0 < (y138.length : Int) then (if x0.size ≤ y138.length then ((some (bytesOf x0 ++ y138.drop x0.size : List Int)).bind fun y141 => (if (x0.size : Int) ≥ 56 then (sha_Sum.j1 k x0 x3 x4 y141 128) else (sha_Sum.j1 k x0 x3 x4 y141 64))) else (none)) else (none)) else (none)))
def sha_Sum.j1 : Nat → ByteArray → List Int → Int → List Int → Int → Option (ByteArray)
 | 0, _, _, _, _, _ => none
 | k + 1, x0, x3, x4, x5, x6 => if x5.length = 128 then (if 0 ≤ (x0.size : Int) then (if (x0.size : Int) < (x5.length : Int) then (sha_Sum.l1 k x3 x4 (x5.set ((x0.size : Int) : Int).toNat 128) x6 0) else (none)) else (none)) else (none)
def sha_Sum.l1 : Nat → List Int → Int → List Int → Int → Int → Option (ByteArray)
 | 0, _, _, _, _, _ => none
 | k + 1, x3, x4, x5, x6, x31 => if x31 < 8 then (if 0 ≤ (wrap64 (8 * x31)) then (if x5.length = 128 then (if 0 ≤ (wrap64 ((wrap64 (x6 - 1)) - x31)) then (if (wrap64 ((wrap64 (x6 - 1)) - x31)) < (x5.length : Int) then (sha_Sum.l1 k x3 x4 (x5.set ((wrap64 ((wrap64 (x6 - 1)) - x31)) : Int).toNat ((shr .u64 x4 (wrap64 (8 * x31))) % 256)) x6 (wrap64 (x31 + 1))) else (none)) else (none)) else (none)) else (none)) else (if x5.length = 128 then (if 0 ≤ x6 then (if x6 ≤ 128 then (if 0 < (x5.length : Int) then (sha_Sum.l2 k x3 (strOfNums (x5.take (x6 : Int).toNat))) else (none)) else (none)) else (none)) else (none))
def sha_Sum.l2 : Nat → List Int → ByteArray → Option (ByteArray)
 | 0, _, _ => none
 | k + 1, x3, x8 => if x8.toList = ([] : List UInt8) then (sha_Sum.l3 k x3 (List.replicate 32 0) 0) else (if 0 ≤ 64 then (if 64 ≤ (x8.size : Int) then ((sha_state_block.f k x3 (x8.extract 0 64)).bind fun t144 => (sha_Sum.l2 k t144 (x8.extract 64 x8.size))) else (none)) else (none))
def sha_Sum.l3 : Nat → List Int → List Int → Int → Option (ByteArray)
 | 0, _, _, _ => none
 | k + 1, x3, x9, x55 => if x55 < 32 then (if x3.length = 8 then (if 0 ≤ (wrap64 (Int.tdiv x55 4)) then (if (wrap64 (Int.tdiv x55 4)) < (x3.length : Int) then (if 0 ≤ (wrap64 (24 - (wrap64 (8 * (Int.tmod x55 4))))) then (if x9.length = 32 then (if 0 ≤ x55 then (if x55 < (x9.length : Int) then (sha_Sum.l3 k x3 (x9.set (x55 : Int).toNat ((shr .u32 (rd x3 (wrap64 (Int.tdiv x55 4))) (wrap64 (24 - (wrap64 (8 * (Int.tmod x55 4)))))) % 256)) (wrap64 (x55 + 1))) else (none)) else (none)) else (none)) else (none)) else (none)) else (none)) else (none)) else (if x9.length = 32 then (if 0 < (x9.length : Int) then (some (strOfNums (x9.take 32))) else (none)) else (none))
end
def sha_Sum.f (k : Nat) (a0 : ByteArray) : Option (ByteArray) := (sha_begin.f).bind fun _ => ((some (List.replicate 8 0 : List Int)).bind fun y133 => (if y133.length = 8 then (if 0 < (y133.length : Int) then (sha_Sum.l0 k a0 ([1779033703, 3144134277, 1013904242, 2773480762, 1359893119, 2600822924, 528734635, 1541459225]) (IntKind.u64.wrap ((IntKind.u64.wrap ((a0.size : Int))) * 8))) else (none)) else (none)))
theorem sha_Sum.mono_l : ∀ k, (∀ y0 y1 y2, LeO (sha_Sum.l0 k y0 y1 y2) (sha_Sum.l0 (k + 1) y0 y1 y2)) ∧ (∀ y0 y1 y2 y3 y4, LeO (sha_Sum.j1 k y0 y1 y2 y3 y4) (sha_Sum.j1 (k + 1) y0 y1 y2 y3 y4)) ∧ (∀ y0 y1 y2 y3 y4, LeO (sha_Sum.l1 k y0 y1 y2 y3 y4) (sha_Sum.l1 (k + 1) y0 y1 y2 y3 y4)) ∧ (∀ y0 y1, LeO (sha_Sum.l2 k y0 y1) (sha_Sum.l2 (k + 1) y0 y1)) ∧ (∀ y0 y1 y2, LeO (sha_Sum.l3 k y0 y1 y2) (sha_Sum.l3 (k + 1) y0 y1 y2))
 | 0 => ⟨fun _ _ _ r h => by simp [sha_Sum.l0] at h, fun _ _ _ _ _ r h => by simp [sha_Sum.j1] at h, fun _ _ _ _ _ r h => by simp [sha_Sum.l1] at h, fun _ _ r h => by simp [sha_Sum.l2] at h, fun _ _ _ r h => by simp [sha_Sum.l3] at h⟩
 | k + 1 => by
  obtain ⟨ih0, ih1, ih2, ih3, ih4⟩ := sha_Sum.mono_l k
  refine ⟨?_, ?_, ?_, ?_, ?_⟩
  ·intro y0 y1 y2
   unfold sha_Sum.l0
   repeat' first
   | (with_reducible exact ih0 _ _ _)
   | (with_reducible exact ih1 _ _ _ _ _)
   | (with_reducible exact ih2 _ _ _ _ _)
   | (with_reducible exact ih3 _ _)
   | (with_reducible exact ih4 _ _ _)
   | (with_reducible exact sha_state_block.mono _ _ _)
   | (with_reducible exact LeO.refl _)
   | (with_reducible exact LeO.none _)
   | (with_reducible refine LeO.ite ?_ ?_)
   | (with_reducible refine LeO.bind ?_ (fun _ => ?_))
   | exact ih0 _ _ _
   | exact ih1 _ _ _ _ _
   | exact ih2 _ _ _ _ _
   | exact ih3 _ _
   | exact ih4 _ _ _
   | exact sha_state_block.mono _ _ _
   | exact LeO.none _
   | refine LeO.ite ?_ ?_
   | refine LeO.bind ?_ (fun _ => ?_)
  ·intro y0 y1 y2 y3 y4
   unfold sha_Sum.j1
   repeat' first
   | (with_reducible exact ih0 _ _ _)
   | (with_reducible exact ih1 _ _ _ _ _)
   | (with_reducible exact ih2 _ _ _ _ _)
   | (with_reducible exact ih3 _ _)
   | (with_reducible exact ih4 _ _ _)
   | (with_reducible exact sha_state_block.mono _ _ _)
   | (with_reducible exact LeO.refl _)
   | (with_reducible exact LeO.none _)
   | (with_reducible refine LeO.ite ?_ ?_)
   | (with_reducible refine LeO.bind ?_ (fun _ => ?_))
   | exact ih0 _ _ _
   | exact ih1 _ _ _ _ _
   | exact ih2 _ _ _ _ _
   | exact ih3 _ _
   | exact ih4 _ _ _
   | exact sha_state_block.mono _ _ _
   | exact LeO.none _
   | refine LeO.ite ?_ ?_
   | refine LeO.bind ?_ (fun _ => ?_)
  ·intro y0 y1 y2 y3 y4
   unfold sha_Sum.l1
   repeat' first
   | (with_reducible exact ih0 _ _ _)
   | (with_reducible exact ih1 _ _ _ _ _)
   | (with_reducible exact ih2 _ _ _ _ _)
   | (with_reducible exact ih3 _ _)
   | (with_reducible exact ih4 _ _ _)
   | (with_reducible exact sha_state_block.mono _ _ _)
   | (with_reducible exact LeO.refl _)
   | (with_reducible exact LeO.none _)
   | (with_reducible refine LeO.ite ?_ ?_)
   | (with_reducible refine LeO.bind ?_ (fun _ => ?_))
   | exact ih0 _ _ _
   | exact ih1 _ _ _ _ _
   | exact ih2 _ _ _ _ _
   | exact ih3 _ _
   | exact ih4 _ _ _
   | exact sha_state_block.mono _ _ _
   | exact LeO.none _
   | refine LeO.ite ?_ ?_
   | refine LeO.bind ?_ (fun _ => ?_)
  ·intro y0 y1
   unfold sha_Sum.l2
   repeat' first
   | (with_reducible exact ih0 _ _ _)
   | (with_reducible exact ih1 _ _ _ _ _)
   | (with_reducible exact ih2 _ _ _ _ _)
   | (with_reducible exact ih3 _ _)
   | (with_reducible exact ih4 _ _ _)
   | (with_reducible exact sha_state_block.mono _ _ _)
   | (with_reducible exact LeO.refl _)
   | (with_reducible exact LeO.none _)
   | (with_reducible refine LeO.ite ?_ ?_)
   | (with_reducible refine LeO.bind ?_ (fun _ => ?_))
   | exact ih0 _ _ _
   | exact ih1 _ _ _ _ _
   | exact ih2 _ _ _ _ _
   | exact ih3 _ _
   | exact ih4 _ _ _
   | exact sha_state_block.mono _ _ _
   | exact LeO.none _
   | refine LeO.ite ?_ ?_
   | refine LeO.bind ?_ (fun _ => ?_)
  ·intro y0 y1 y2
   unfold sha_Sum.l3
   repeat' first
   | (with_reducible exact ih0 _ _ _)
   | (with_reducible exact ih1 _ _ _ _ _)
   | (with_reducible exact ih2 _ _ _ _ _)
   | (with_reducible exact ih3 _ _)
   | (with_reducible exact ih4 _ _ _)
   | (with_reducible exact sha_state_block.mono _ _ _)
   | (with_reducible exact LeO.refl _)
   | (with_reducible exact LeO.none _)
   | (with_reducible refine LeO.ite ?_ ?_)
   | (with_reducible refine LeO.bind ?_ (fun _ => ?_))
   | exact ih0 _ _ _
   | exact ih1 _ _ _ _ _
   | exact ih2 _ _ _ _ _
   | exact ih3 _ _
   | exact ih4 _ _ _
   | exact sha_state_block.mono _ _ _
   | exact LeO.none _
   | refine LeO.ite ?_ ?_
   | refine LeO.bind ?_ (fun _ => ?_)
theorem sha_Sum.mono : ∀ a0 k, LeO (sha_Sum.f k a0) (sha_Sum.f (k + 1) a0) := by
 intro a0 k
 obtain ⟨ih0, ih1, ih2, ih3, ih4⟩ := sha_Sum.mono_l k
 unfold sha_Sum.f
 repeat' first
  | (with_reducible exact ih0 _ _ _)
  | (with_reducible exact ih1 _ _ _ _ _)
  | (with_reducible exact ih2 _ _ _ _ _)
  | (with_reducible exact ih3 _ _)
  | (with_reducible exact ih4 _ _ _)
  | (with_reducible exact sha_state_block.mono _ _ _)
  | (with_reducible exact LeO.refl _)
  | (with_reducible exact LeO.none _)
  | (with_reducible refine LeO.ite ?_ ?_)
  | (with_reducible refine LeO.bind ?_ (fun _ => ?_))
  | exact ih0 _ _ _
  | exact ih1 _ _ _ _ _
  | exact ih2 _ _ _ _ _
  | exact ih3 _ _
  | exact ih4 _ _ _
  | exact sha_state_block.mono _ _ _
  | exact LeO.none _
  | refine LeO.ite ?_ ?_
  | refine LeO.bind ?_ (fun _ => ?_)
set_option maxHeartbeats 64000000 in
set_option maxRecDepth 100000 in
theorem sha_Sum.calls (k : Nat) (a0 : ByteArray) (r : ByteArray) (w : World) (hrG : Kd.C (Kd.int .u32) w (some ⟨0, 0, none⟩) keysL.length keysL) (h : sha_Sum.f k a0 = some r) :
 Calls Tryd.prog 31 #[.string a0] w fun e w' => e = .returned (.string r) ∧ Below w.heap.size w w' := by
 have hu56 := Tryd.underlying56
 have hu60 := Tryd.underlying60
 have HRG := Aside0.mk hrG
 clear hrG
 have HB := Aside0.mk (Below.refl w.heap.size w)
 have H : ((sha_begin.f).bind fun _ => ((some (List.replicate 8 0 : List Int)).bind fun y133 => (if y133.length = 8 then (if 0 < (y133.length : Int) then (sha_Sum.l0 k a0 ([1779033703, 3144134277, 1013904242, 2773480762, 1359893119, 2600822924, 528734635, 1541459225]) (IntKind.u64.wrap ((IntKind.u64.wrap ((a0.size : Int))) * 8))) else (none)) else (none)))) = some r := h
 clear h
 replace H := Option.bind_eq_some_iff.mp H
 obtain ⟨_, A20, H⟩ := H
 replace H : ((some (List.replicate 8 0 : List Int)).bind fun y133 => (if y133.length = 8 then (if 0 < (y133.length : Int) then (sha_Sum.l0 k a0 ([1779033703, 3144134277, 1013904242, 2773480762, 1359893119, 2600822924, 528734635, 1541459225]) (IntKind.u64.wrap ((IntKind.u64.wrap ((a0.size : Int))) * 8))) else (none)) else (none))) = some r := H
 have A2 := Aside0.mk A20
 clear A20
 obtain ⟨y133, hy133⟩ : ∃ y_ : List Int, y_ = (List.replicate 8 0) := ⟨_, rfl⟩
 replace H : (if y133.length = 8 then (if 0 < (y133.length : Int) then (sha_Sum.l0 k a0 ([1779033703, 3144134277, 1013904242, 2773480762, 1359893119, 2600822924, 528734635, 1541459225]) (IntKind.u64.wrap ((IntKind.u64.wrap ((a0.size : Int))) * 8))) else (none)) else (none)) = some r := by first | (rw [hy133]; with_reducible exact H) | (have H2_ := (Option.bind_some _ _).symm.trans H; rw [hy133]; with_reducible exact H2_) | (have H2_ := (Option.bind_some _ _).symm.trans H; with_reducible exact H2_) | with_reducible exact H | (rw [hy133]; exact H) | exact H
 have Ny133 := Aside0.mk hy133
 clear hy133
 by_cases c3 : y133.length = 8
 rotate_left
 ·rw [if_neg c3] at H
  exact absurd H (by simp)
 rw [if_pos c3] at H
 have c3b0 := eq_true c3
 have c3b1 : decide (y133.length = 8) = true := decide_eq_true c3
 clear c3
 by_cases c4 : 0 < (y133.length : Int)
 rotate_left
 ·rw [if_neg c4] at H
  exact absurd H (by simp)
 rw [if_pos c4] at H
 have c4b0 : decide (0 < (y133.length : Int)) = true := decide_eq_true c4
 have c4b1 : decide (0 < y133.length) = true := decide_eq_true (by omega)
 clear c4
 obtain ⟨y136, hy136⟩ : ∃ y_ : List Int, y_ = ([1779033703, 3144134277, 1013904242, 2773480762, 1359893119, 2600822924, 528734635, 1541459225]) := ⟨_, rfl⟩
 replace H : (sha_Sum.l0 k a0 y136 (IntKind.u64.wrap ((IntKind.u64.wrap ((a0.size : Int))) * 8))) = some r := by first | (rw [hy136]; with_reducible exact H) | (have H2_ := (Option.bind_some _ _).symm.trans H; rw [hy136]; with_reducible exact H2_) | (have H2_ := (Option.bind_some _ _).symm.trans H; with_reducible exact H2_) | with_reducible exact H | (rw [hy136]; exact H) | exact H
 have Ny136 := Aside0.mk hy136
 clear hy136
 have H' := Aside0.mk H
 clear H
 go_enter Tryd.func31, Tryd.ntmps31
 go_wp2_with (first | ((with_reducible refine gate_callee (f := 33) rfl ?_); refine goesL_ (some 11) rfl rfl Tryd.func33 (by kernel_rfl) rfl #[] rfl (by (try simp only [List.map_toArray, List.map_cons, List.map_nil]); first | done | rfl | (simp only [List.length_drop, List.length_take]; rfl)) ?_; (with_reducible refine (sha_begin.calls   _ A2.out).mono ?_); rintro e w6 ⟨rfl, hb⟩; refine ⟨_, rfl, ?_⟩; have n0_ := Aside0.mk (below_step (by repeat (first | (with_reducible first | exact HB.out | apply below_alloc | apply pw_below_drewN | apply below_drew1) | exact HB.out)) hb); clear HB; have HB := n0_; clear n0_; (try clear hb); (try clear hb2); (try clear hk); (try clear hi)) | ((with_reducible refine gate_dst (N := 3) rfl ?_); refine R_arr (Value.int .u32) (fun _ => rfl) _ 56 ?hg (N := 3) ?hd (List.replicate 8 0) ?hr (Below.refl _ _) (Nat.le_refl _) (by decide) ?_; (case hd => rfl); (case hg => rfl); (case hr => first | (go_simp; done) | (go_simp; rfl)); intro v134 w7 ho8 hb hg_ hnew_; clear hg_ hnew_; (first | rw [← Ny133.out] at ho8 | (simp only [Int.reduceToNat] at ho8; rw [← Ny133.out] at ho8)); have n0_ := Aside0.mk (Kd.R_lower ho8 (below_size (by repeat (first | (with_reducible first | exact HB.out | apply below_alloc | apply pw_below_drewN | apply below_drew1) | exact HB.out)))); have n1_ := Aside0.mk (below_step (by repeat (first | (with_reducible first | exact HB.out | apply below_alloc | apply pw_below_drewN | apply below_drew1) | exact HB.out)) hb); clear HB; have HO135 := n0_; have HB := n1_; clear n0_ n1_; clear hb ho8; have qa5 : ((0 : Int) < (8 : Int)) = True := eq_true (by have e_ : y133.length = 8 := of_decide_eq_true (by first | (with_reducible assumption) | assumption); have h_ : (0 : Int) < ((y133.length : Int) : Int) := of_decide_eq_true (by first | (with_reducible assumption) | assumption); omega); have p5 : 0 ≤ (0 : Int) := (by omega); have q5 : (0 : Int) < ((y133.length : Int) : Int) := of_decide_eq_true (by first | (with_reducible assumption) | assumption); have qi5 : (0 < y133.length) = True := eq_true (by omega); obtain ⟨go5, co5, eo5, gb5, gl5, cl5, HG5⟩ := Kd.R_form HO135.out (by omega); (first | cases eo5 | (injection eo5 with ea_ en_ ec_; (first | subst ea_ | (injection ea_ with ea_; subst ea_)); subst ec_; clear en_)); have GB5 := Aside0.mk gb5; have GG5 := Aside0.mk HG5; clear gb5 gl5 HG5; obtain ⟨hx5_0, hf5_0⟩ := Kd.R_celln 0 HO135.out (0 : Int) p5 q5; (try rw [show ((0 : Int)).toNat = 0 from rfl] at hx5_0); (try simp only [Nat.reduceMul, Nat.zero_mul, Nat.zero_add, Nat.reduceAdd] at hx5_0); (try rw [show ((0 : Int)).toNat = 0 from rfl] at hf5_0); (try simp only [Nat.reduceMul, Nat.zero_mul, Nat.zero_add, Nat.reduceAdd] at hf5_0); replace p5 := eq_true p5; replace q5 := eq_true q5; have HP9 := R_whole (ys := [1779033703, 3144134277, 1013904242, 2773480762, 1359893119, 2600822924, 528734635, 1541459225]) HO135.out (by have e_ : y133.length = 8 := of_decide_eq_true (by first | (with_reducible assumption) | assumption); have e2_ := (Kd.R_reads' HO135.out).1; first | (rw [e_]; rfl) | (simp only [List.length_cons, List.length_nil]; omega))) | ((with_reducible refine gate_store (t := 56) (p := 3) rfl ?_); refine store_event (t := 56) (p := 3) (v := ?vo_w10) (w1 := (w7.setCells go5 0 (encs (Value.int .u32) [1779033703, 3144134277, 1013904242, 2773480762, 1359893119, 2600822924, 528734635, 1541459225]))) ?hg ?ho ?hn ?hr ?_; (case ho => rfl); (case hg => rfl); (case hn => rfl); (case hr => exact whole_run (ys := [1779033703, 3144134277, 1013904242, 2773480762, 1359893119, 2600822924, 528734635, 1541459225]) rfl rfl rfl (by kernel_rfl) HO135.out (by have e_ : y133.length = 8 := of_decide_eq_true (by first | (with_reducible assumption) | assumption); have e2_ := (Kd.R_reads' HO135.out).1; first | (rw [e_]; rfl) | (simp only [List.length_cons, List.length_nil]; omega))); intro w10 hw; have hg : w7.grownBy w10 (some go5) := (by rw [hw]; exact HP9.2); have hp_ : Kd.R (Kd.int .u32) 56 w10 w.heap.size (fun _ => True) (.slice (some ⟨go5, 0, none⟩) y133.length co5) y136 := (by rw [hw, Ny136.out]; exact HP9.1); clear HP9; have n0_ := Aside0.mk (hp_); have n1_ := Aside0.mk ((Below.grown HB.out hg (below_size HB.out) (fun k_ e_ => (Option.some.inj e_) ▸ GB5.out) : Below w.heap.size w w10)); clear HO135; clear HB; have HO135 := n0_; have HB := n1_; clear n0_ n1_; clear hg hw hp_))
 go_loopg [0] k (fun kq v0 w' => ∃ (x0_1 : ByteArray) (x3_1 : List Int), v0 = .string x0_1 ∧ Aside0 (sha_Sum.l0 kq x0_1 x3_1 (IntKind.u64.wrap ((IntKind.u64.wrap ((a0.size : Int))) * 8)) = some r) ∧ Aside0 (kq ≤ k) ∧ Aside0 (Kd.R (Kd.int .u32) 56 w' w.heap.size (fun _ => True) (.slice (some ⟨go5, 0, none⟩) y133.length co5) x3_1) ∧ Aside0 (Below w.heap.size w w'))
 case atStart => exact ⟨(a0), (y136), (by first | rfl | (simp; done) | (simp [*]; done) | exact congrArg Value.bool (nonempty_l _) | (refine congrArg (Value.int _) ?_; first | omega | (unfold Go.RowKit.wrap64; omega))), H', ⟨Nat.le_refl _⟩, ⟨by (with_reducible repeat (first | apply Kd.R_alloc | apply Kd.R_drewN | apply Kd.R_drew)); exact HO135.out⟩, ⟨by repeat (first | (with_reducible first | exact HB.out | apply below_alloc | apply pw_below_drewN | apply below_drew1) | exact HB.out)⟩⟩
 case round =>
  clear H'
  (try clear p2); (try clear c3); (try clear c3b0); (try clear c3b1); (try clear c4); (try clear c4b0); (try clear c4b1); (try clear p5); (try clear q5); (try clear hx5); (try clear qi5); (try clear hf5); (try clear p6); (try clear hx5_0); (try clear p5); (try clear q5)
  obtain ⟨x0_1, x3_1, rfl, HA, HK1, HO_3, HB⟩ := hrel
  have hl3_1 := (Kd.R_reads' HO_3.out).1
  rw [hl3_1] at HO_3
  (try simp only [hl3_1])
  cases gk with
  | zero => exact absurd HA.out (by simp [sha_Sum.l0])
  | succ k1 =>
   have H := HA.out
   clear HA
   simp only [sha_Sum.l0] at H
   by_cases c11 : (x0_1.size : Int) ≥ 64
   ·rw [if_pos c11] at H
    have c11b0 : decide (64 ≤ (x0_1.size : Int)) = true := decide_eq_true c11
    have c11b1 : decide (64 ≤ x0_1.size) = true := decide_eq_true (by omega)
    (try (have c11b7 := c11b0; simp only [hl3_1] at c11b7))
    (try (have c11b8 := c11b1; simp only [hl3_1] at c11b8))
    clear c11
    by_cases c12 : 0 ≤ 64
    rotate_left
    ·rw [if_neg c12] at H
     exact absurd H (by simp)
    rw [if_pos c12] at H
    have c12b0 := eq_true c12
    have c12b1 : decide (0 ≤ 64) = true := decide_eq_true c12
    clear c12
    by_cases c13 : 64 ≤ (x0_1.size : Int)
    rotate_left
    ·rw [if_neg c13] at H
     exact absurd H (by simp)
    rw [if_pos c13] at H
    have c13b0 := eq_true c13
    have c13b1 : decide (64 ≤ (x0_1.size : Int)) = true := decide_eq_true c13
    clear c13
    replace H := Option.bind_eq_some_iff.mp H
    obtain ⟨t137, A140, H⟩ := H
    replace H : (sha_Sum.l0 k1 (x0_1.extract 64 x0_1.size) t137 (IntKind.u64.wrap ((IntKind.u64.wrap ((a0.size : Int))) * 8))) = some r := H
    have A14 := Aside0.mk A140
    clear A140
    have c15b0 := eq_true (of_decide_eq_true (by first | (with_reducible assumption) | assumption) : 64 ≤ (x0_1.size : Int))
    have H' := Aside0.mk H
    clear H
    go_wp2_with (first | ((with_reducible refine gate_callee (f := 34) rfl ?_); refine goesL_ (some 21) rfl rfl Tryd.func34 (by kernel_rfl) rfl #[.pointer (some ⟨go5, 0, none⟩), .string (x0_1.extract 0 64)] rfl (by (try simp only [List.map_toArray, List.map_cons, List.map_nil]); first | done | rfl | (simp only [List.length_drop, List.length_take]; rfl)) ?_; (with_reducible refine (sha_state_block.calls k1 (fun k_ => some k_ = (.slice (some ⟨go5, 0, none⟩) x3_1.length co5 : Value).ownBlock) (.slice (some ⟨go5, 0, none⟩) x3_1.length co5) x3_1 (x0_1.extract 0 64) t137 w _ ?side1 ?side2 ?side3 A14.out).mono ?_); (case side1 => repeat (first | (with_reducible first | exact HB.out | apply below_alloc | apply pw_below_drewN | apply below_drew1) | exact HB.out)); (case side2 => exact Kd.R_tight rfl HO_3.out); (case side3 => exact Kd.C_kept_came (Kd.heap_int .u32) HRG.out (by repeat (first | (with_reducible first | exact HB.out | apply below_alloc | apply pw_below_drewN | apply below_drew1) | exact HB.out)) (fun k_ hs_ => (fun e_ => Kd.R_base HO_3.out k_ e_.symm) hs_)); rintro e w16 ⟨rfl, hy0, hb, hkp⟩; refine ⟨_, rfl, ?_⟩; have n0_ := Aside0.mk (Kd.R_reok rfl hy0 (fun k_ e_ => HO_3.out.1 k_ e_)); have n1_ := Aside0.mk (hb); clear HO_3; clear HB; have HO_3 := n0_; have HB := n1_; clear n0_ n1_; (try clear hb); (try clear hkp); (try clear hy0)))
    (try simp only [← hl3_1])
    go_roundg k1
    case measure => have := HK1.out; omega
    case rel => exact ⟨(x0_1.extract 64 x0_1.size), (t137), (by first | rfl | (simp; done) | (simp [*]; done) | exact congrArg Value.bool (nonempty_l _) | (refine congrArg (Value.int _) ?_; first | omega | (unfold Go.RowKit.wrap64; omega))), H', ⟨by have := HK1.out; omega⟩, ⟨by (try simp only [hl3_1]); (with_reducible repeat (first | apply Kd.R_alloc | apply Kd.R_drewN | apply Kd.R_drew)); exact HO_3.out⟩, ⟨by repeat (first | (with_reducible first | exact HB.out | apply below_alloc | apply pw_below_drewN | apply below_drew1) | exact HB.out)⟩⟩
   ·rw [if_neg c11] at H
    have c11b0 : decide (64 ≤ (x0_1.size : Int)) = false := decide_eq_false c11
    have c11b1 : decide (64 ≤ x0_1.size) = false := decide_eq_false (by omega)
    (try (have c11b7 := c11b0; simp only [hl3_1] at c11b7))
    (try (have c11b8 := c11b1; simp only [hl3_1] at c11b8))
    clear c11
    obtain ⟨y138, hy138⟩ : ∃ y_ : List Int, y_ = (List.replicate 128 0) := ⟨_, rfl⟩
    replace H : (if y138.length = 128 then (if 0 < (y138.length : Int) then (if x0_1.size ≤ y138.length then ((some (bytesOf x0_1 ++ y138.drop x0_1.size : List Int)).bind fun y141 => (if (x0_1.size : Int) ≥ 56 then (sha_Sum.j1 k1 x0_1 x3_1 (IntKind.u64.wrap ((IntKind.u64.wrap ((a0.size : Int))) * 8)) y141 128) else (sha_Sum.j1 k1 x0_1 x3_1 (IntKind.u64.wrap ((IntKind.u64.wrap ((a0.size : Int))) * 8)) y141 64))) else (none)) else (none)) else (none)) = some r := by first | (rw [hy138]; with_reducible exact H) | (have H2_ := (Option.bind_some _ _).symm.trans H; rw [hy138]; with_reducible exact H2_) | (have H2_ := (Option.bind_some _ _).symm.trans H; with_reducible exact H2_) | with_reducible exact H | (rw [hy138]; exact H) | exact H
    have Ny138 := Aside0.mk hy138
    clear hy138
    by_cases c17 : y138.length = 128
    rotate_left
    ·rw [if_neg c17] at H
     exact absurd H (by simp)
    rw [if_pos c17] at H
    have c17b0 := eq_true c17
    have c17b1 : decide (y138.length = 128) = true := decide_eq_true c17
    clear c17
    by_cases c18 : 0 < (y138.length : Int)
    rotate_left
    ·rw [if_neg c18] at H
     exact absurd H (by simp)
    rw [if_pos c18] at H
    have c18b0 : decide (0 < (y138.length : Int)) = true := decide_eq_true c18
    have c18b1 : decide (0 < y138.length) = true := decide_eq_true (by omega)
    (try (have c18b7 := c18b0; simp only [hl3_1] at c18b7))
    (try (have c18b8 := c18b1; simp only [hl3_1] at c18b8))
    clear c18
    by_cases c20 : x0_1.size ≤ y138.length
    rotate_left
    ·rw [if_neg c20] at H
     exact absurd H (by simp)
    rw [if_pos c20] at H
    have c20b0 := eq_true c20
    have c20b1 : decide (x0_1.size ≤ y138.length) = true := decide_eq_true c20
    clear c20
    obtain ⟨y141, hy141⟩ : ∃ y_ : List Int, y_ = (bytesOf x0_1 ++ y138.drop x0_1.size) := ⟨_, rfl⟩
    replace H : (if (x0_1.size : Int) ≥ 56 then (sha_Sum.j1 k1 x0_1 x3_1 (IntKind.u64.wrap ((IntKind.u64.wrap ((a0.size : Int))) * 8)) y141 128) else (sha_Sum.j1 k1 x0_1 x3_1 (IntKind.u64.wrap ((IntKind.u64.wrap ((a0.size : Int))) * 8)) y141 64)) = some r := by first | (rw [hy141]; with_reducible exact H) | (have H2_ := (Option.bind_some _ _).symm.trans H; rw [hy141]; with_reducible exact H2_) | (have H2_ := (Option.bind_some _ _).symm.trans H; with_reducible exact H2_) | with_reducible exact H | (rw [hy141]; exact H) | exact H
    have Ny141 := Aside0.mk hy141
    clear hy141
    have HC22 := Aside0.mk H
    clear H
    go_upto_if 27 with (first | ((with_reducible refine gate_dst (N := 5) rfl ?_); refine R_arr (Value.int .u8) (fun _ => rfl) _ 59 ?hg (N := 5) ?hd (List.replicate 128 0) ?hr (Below.refl _ _) (Nat.le_refl _) (by decide) ?_; (case hd => rfl); (case hg => rfl); (case hr => first | (go_simp; done) | (go_simp; rfl)); intro v139 w23 ho24 hb hg_ hnew_; clear hg_ hnew_; (first | rw [← Ny138.out] at ho24 | (simp only [Int.reduceToNat] at ho24; rw [← Ny138.out] at ho24)); have n0_ := Aside0.mk (Kd.R_below (by (with_reducible repeat (first | apply Kd.R_alloc | apply Kd.R_drewN | apply Kd.R_drew)); exact HO_3.out) hb); have n1_ := Aside0.mk (Kd.R_lower ho24 (below_size (by repeat (first | (with_reducible first | exact HB.out | apply below_alloc | apply pw_below_drewN | apply below_drew1) | exact HB.out)))); have n2_ := Aside0.mk (below_step (by repeat (first | (with_reducible first | exact HB.out | apply below_alloc | apply pw_below_drewN | apply below_drew1) | exact HB.out)) hb); clear HO_3; clear HB; have HO_3 := n0_; have HO140 := n1_; have HB := n2_; clear n0_ n1_ n2_; clear hb ho24; have qa19 : ((0 : Int) < (128 : Int)) = True := eq_true (by have e_ : y138.length = 128 := of_decide_eq_true (by first | (with_reducible assumption) | assumption); have h_ : (0 : Int) < ((y138.length : Int) : Int) := of_decide_eq_true (by first | (with_reducible assumption) | assumption); omega); have p19 : 0 ≤ (0 : Int) := (by omega); have q19 : (0 : Int) < ((y138.length : Int) : Int) := of_decide_eq_true (by first | (with_reducible assumption) | assumption); have qi19 : (0 < y138.length) = True := eq_true (by omega); obtain ⟨go19, co19, eo19, gb19, gl19, cl19, HG19⟩ := Kd.R_form HO140.out (by omega); (first | cases eo19 | (injection eo19 with ea_ en_ ec_; (first | subst ea_ | (injection ea_ with ea_; subst ea_)); subst ec_; clear en_)); have GB19 := Aside0.mk gb19; have GG19 := Aside0.mk HG19; clear gb19 gl19 HG19; obtain ⟨hx19_0, hf19_0⟩ := Kd.R_celln 0 HO140.out (0 : Int) p19 q19; (try rw [show ((0 : Int)).toNat = 0 from rfl] at hx19_0); (try simp only [Nat.reduceMul, Nat.zero_mul, Nat.zero_add, Nat.reduceAdd] at hx19_0); (try rw [show ((0 : Int)).toNat = 0 from rfl] at hf19_0); (try simp only [Nat.reduceMul, Nat.zero_mul, Nat.zero_add, Nat.reduceAdd] at hf19_0); replace p19 := eq_true p19; replace q19 := eq_true q19) | ((with_reducible refine gate_dst (N := 24) rfl ?_); refine aslice_event (P := Tryd.prog) rfl (N := 24) rfl 59 5 128 _ _ rfl rfl Tryd.underlying59 (by go_simp) ?_; have qa21 : ((0 : Int) < (128 : Int)) = True := eq_true (by have e_ : y138.length = 128 := of_decide_eq_true (by first | (with_reducible assumption) | assumption); have h_ : (0 : Int) < ((y138.length : Int) : Int) := of_decide_eq_true (by first | (with_reducible assumption) | assumption); omega); have p21 : 0 ≤ (0 : Int) := (by omega); have q21 : (0 : Int) < ((y138.length : Int) : Int) := of_decide_eq_true (by first | (with_reducible assumption) | assumption); have qi21 : (0 < y138.length) = True := eq_true (by omega); obtain ⟨hx21_0, hf21_0⟩ := Kd.R_celln 0 HO140.out (0 : Int) p21 q21; (try rw [show ((0 : Int)).toNat = 0 from rfl] at hx21_0); (try simp only [Nat.reduceMul, Nat.zero_mul, Nat.zero_add, Nat.reduceAdd] at hx21_0); (try rw [show ((0 : Int)).toNat = 0 from rfl] at hf21_0); (try simp only [Nat.reduceMul, Nat.zero_mul, Nat.zero_add, Nat.reduceAdd] at hf21_0); replace p21 := eq_true p21; replace q21 := eq_true q21) | ((with_reducible refine gate_dst (N := 26) rfl ?_); refine acopy_event (P := Tryd.prog) rfl (N := 26) rfl 52 9 5 _ _ rfl Tryd.underlying52 (by kernel_rfl) rfl x0_1 rfl HO140.out (by have e_ : y138.length = 128 := of_decide_eq_true (by first | (with_reducible assumption) | assumption); have e2_ := (Kd.R_reads' HO140.out).1; omega) (of_decide_eq_true (by first | (with_reducible assumption) | assumption)) ?_; intro w27 hp_ hg; have hw := trivial; rw [← Ny141.out] at hp_; have n0_ := Aside0.mk (Kd.R_over' (v := (.slice (some ⟨go19, 0, none⟩) y138.length co19)) (by (with_reducible repeat (first | apply Kd.R_alloc | apply Kd.R_drewN | apply Kd.R_drew)); exact HO_3.out) (Kd.R_typed HO140.out) (by decide) hg); have n1_ := Aside0.mk (hp_); have n2_ := Aside0.mk ((Below.grown HB.out hg (below_size HB.out) (fun k_ e_ => (Option.some.inj e_) ▸ GB19.out) : Below w.heap.size w w27)); clear HO_3; clear HO140; clear HB; have HO_3 := n0_; have HO140 := n1_; have HB := n2_; clear n0_ n1_ n2_; clear hg hw hp_))
    (try simp only [Act.put, List.setIfInBounds_toArray, List.set_cons_zero, List.set_cons_succ])
    go_cut [6] (fun v6 wc => ∃ (kq : Nat) (x6_21 : Int), v6 = .int .i64 x6_21 ∧ Aside0 (sha_Sum.j1 kq x0_1 x3_1 (IntKind.u64.wrap ((IntKind.u64.wrap ((a0.size : Int))) * 8)) y141 x6_21 = some r) ∧ Aside0 (kq ≤ k1) ∧ Aside0 (Kd.R (Kd.int .u32) 56 wc w.heap.size (fun _ => True) (.slice (some ⟨go5, 0, none⟩) x3_1.length co5) x3_1) ∧ Aside0 (Kd.R (Kd.int .u8) 59 wc w.heap.size (fun _ => True) (.slice (some ⟨go19, 0, none⟩) y138.length co19) y141) ∧ Aside0 (Below w.heap.size w wc))
    case first =>
     have H := HC22.out
     clear HC22
     by_cases c28 : (x0_1.size : Int) ≥ 56
     ·rw [if_pos c28] at H
      have c28b0 : decide (56 ≤ (x0_1.size : Int)) = true := decide_eq_true c28
      have c28b1 : decide (56 ≤ x0_1.size) = true := decide_eq_true (by omega)
      (try (have c28b7 := c28b0; simp only [hl3_1] at c28b7))
      (try (have c28b8 := c28b1; simp only [hl3_1] at c28b8))
      clear c28
      (first | rw [c28b0] | (simp only [i64_w, i32_w]; rw [c28b0]) | skip)
      have H' := Aside0.mk H
      clear H
      go_wp2
      go_meet
      case rel => exact ⟨_, (128), (by first | rfl | (simp; done) | (simp [*]; done) | exact congrArg Value.bool (nonempty_l _) | (refine congrArg (Value.int _) ?_; first | omega | (unfold Go.RowKit.wrap64; omega))), H', ⟨by have := HK1.out; first | omega | exact Nat.le_refl _⟩, ⟨by (try simp only [hl3_1]); (with_reducible repeat (first | apply Kd.R_alloc | apply Kd.R_drewN | apply Kd.R_drew)); exact HO_3.out⟩, ⟨by (try simp only [hl3_1]); (with_reducible repeat (first | apply Kd.R_alloc | apply Kd.R_drewN | apply Kd.R_drew)); exact HO140.out⟩, ⟨by repeat (first | (with_reducible first | exact HB.out | apply below_alloc | apply pw_below_drewN | apply below_drew1) | exact HB.out)⟩⟩
     ·rw [if_neg c28] at H
      have c28b0 : decide (56 ≤ (x0_1.size : Int)) = false := decide_eq_false c28
      have c28b1 : decide (56 ≤ x0_1.size) = false := decide_eq_false (by omega)
      (try (have c28b7 := c28b0; simp only [hl3_1] at c28b7))
      (try (have c28b8 := c28b1; simp only [hl3_1] at c28b8))
      clear c28
      (first | rw [c28b0] | (simp only [i64_w, i32_w]; rw [c28b0]) | skip)
      have H' := Aside0.mk H
      clear H
      go_wp2
      go_meet
      case rel => exact ⟨_, (64), (by first | rfl | (simp; done) | (simp [*]; done) | exact congrArg Value.bool (nonempty_l _) | (refine congrArg (Value.int _) ?_; first | omega | (unfold Go.RowKit.wrap64; omega))), H', ⟨by have := HK1.out; first | omega | exact Nat.le_refl _⟩, ⟨by (try simp only [hl3_1]); (with_reducible repeat (first | apply Kd.R_alloc | apply Kd.R_drewN | apply Kd.R_drew)); exact HO_3.out⟩, ⟨by (try simp only [hl3_1]); (with_reducible repeat (first | apply Kd.R_alloc | apply Kd.R_drewN | apply Kd.R_drew)); exact HO140.out⟩, ⟨by repeat (first | (with_reducible first | exact HB.out | apply below_alloc | apply pw_below_drewN | apply below_drew1) | exact HB.out)⟩⟩
    case rest =>
     clear HC22
     (try clear c1); (try clear p1); (try clear q1); (try clear hx1); (try clear qi1); (try clear hf1); (try clear c2); (try clear p2); (try clear q2); (try clear hx2); (try clear qi2); (try clear hf2); (try clear c3); (try clear c3b0); (try clear c3b1); (try clear c4); (try clear c4b0); (try clear c4b1); (try clear p5); (try clear q5); (try clear hx5); (try clear qi5); (try clear hf5); (try clear p6); (try clear c11); (try clear c11b0); (try clear c11b1); (try clear c11b7); (try clear c11b8); (try clear c12); (try clear c12b0); (try clear c12b1); (try clear c13); (try clear c13b0); (try clear c13b1); (try clear c15); (try clear c15b0); (try clear c17); (try clear c17b0); (try clear c17b1); (try clear c18); (try clear c18b0); (try clear c18b1); (try clear c18b7); (try clear c18b8); (try clear p19); (try clear q19); (try clear hx19); (try clear qi19); (try clear hf19); (try clear c20); (try clear c20b0); (try clear c20b1); (try clear p21); (try clear q21); (try clear hx21); (try clear qi21); (try clear hf21); (try clear c28); (try clear c28b0); (try clear c28b1); (try clear c28b7); (try clear c28b8); (try clear hx19_0); (try clear hx21_0); (try clear hx5_0); (try clear p19); (try clear p2); (try clear p21); (try clear p5); (try clear p6); (try clear q19); (try clear q21); (try clear q5)
     obtain ⟨kq, x6_21, rfl, HA, HJ21, HO_3, HO_5, HB⟩ := hcut
     have hl5_21 := (Kd.R_reads' HO_5.out).1
     rw [hl5_21] at HO_5
     (try simp only [hl5_21])
     (try simp only [hl5_21] at HO_3)
     cases kq with
     | zero => exact absurd HA.out (by simp [sha_Sum.j1])
     | succ kj21 =>
      have H := HA.out
      clear HA
      simp only [sha_Sum.j1] at H
      by_cases c29 : y141.length = 128
      rotate_left
      ·rw [if_neg c29] at H
       exact absurd H (by simp)
      rw [if_pos c29] at H
      have c29b0 := eq_true c29
      have c29b1 : decide (y141.length = 128) = true := decide_eq_true c29
      clear c29
      by_cases c30 : 0 ≤ (x0_1.size : Int)
      rotate_left
      ·rw [if_neg c30] at H
       exact absurd H (by simp)
      rw [if_pos c30] at H
      have c30b0 : decide (0 ≤ (x0_1.size : Int)) = true := decide_eq_true c30
      have c30b1 : decide (0 ≤ x0_1.size) = true := decide_eq_true (by omega)
      (try (have c30b7 := c30b0; simp only [hl3_1, hl5_21] at c30b7))
      (try (have c30b8 := c30b1; simp only [hl3_1, hl5_21] at c30b8))
      clear c30
      by_cases c31 : (x0_1.size : Int) < (y141.length : Int)
      rotate_left
      ·rw [if_neg c31] at H
       exact absurd H (by simp)
      rw [if_pos c31] at H
      have c31b0 : decide ((x0_1.size : Int) < (y141.length : Int)) = true := decide_eq_true c31
      have c31b1 : decide (x0_1.size < y141.length) = true := decide_eq_true (Int.ofNat_lt.mp c31)
      (try (have c31b7 := c31b0; simp only [hl3_1, hl5_21] at c31b7))
      (try (have c31b8 := c31b1; simp only [hl3_1, hl5_21] at c31b8))
      clear c31
      obtain ⟨y142, hy142⟩ : ∃ y_ : List Int, y_ = (y141.set ((x0_1.size : Int) : Int).toNat 128) := ⟨_, rfl⟩
      replace H : (sha_Sum.l1 kj21 x3_1 (IntKind.u64.wrap ((IntKind.u64.wrap ((a0.size : Int))) * 8)) y142 x6_21 0) = some r := by first | (rw [hy142]; with_reducible exact H) | (have H2_ := (Option.bind_some _ _).symm.trans H; rw [hy142]; with_reducible exact H2_) | (have H2_ := (Option.bind_some _ _).symm.trans H; with_reducible exact H2_) | with_reducible exact H | (rw [hy142]; exact H) | exact H
      have Ny142 := Aside0.mk hy142
      clear hy142
      have H' := Aside0.mk H
      clear H
      have qa32 : (((x0_1.size : Int) : Int) < (128 : Int)) = True := eq_true (by have e_ : y141.length = 128 := of_decide_eq_true (by first | (with_reducible assumption) | assumption); have h_ : ((x0_1.size : Int) : Int) < ((y141.length : Int) : Int) := of_decide_eq_true (by first | (with_reducible assumption) | assumption); omega)
      have p32 : 0 ≤ ((x0_1.size : Int) : Int) := of_decide_eq_true (by first | (with_reducible assumption) | assumption)
      have q32 : ((x0_1.size : Int) : Int) < ((y141.length : Int) : Int) := of_decide_eq_true (by first | (with_reducible assumption) | assumption)
      obtain ⟨hx32_0, hf32_0⟩ := Kd.R_celln 0 HO_5.out ((x0_1.size : Int) : Int) p32 q32
      (try simp only [Int.toNat_natCast] at hx32_0 hf32_0)
      replace p32 := eq_true p32
      replace q32 := eq_true q32
      have HP33 := Kd.R_putg HO_5.out ((x0_1.size : Int) : Int) 128
      go_wp2_with (first | ((with_reducible refine gate_store (t := 5) (p := 30) rfl ?_); refine store_event (t := 5) (p := 30) (v := ?vo_w34) (w1 := (wc.setCell ⟨go19, ((x0_1.size : Int) : Int).toNat, none⟩ (.int .u8 128))) ?hg ?ho ?hn ?hr ?_; (case ho => rfl); (case hg => rfl); (case hn => rfl); (case hr => first | (go_simp; done) | (go_simp; rfl)); intro w34 hw; have hg : wc.grownBy w34 (some go19) := (by rw [hw]; exact HP33.2); have hp_ : Kd.R (Kd.int .u8) 59 w34 w.heap.size (fun _ => True) (.slice (some ⟨go19, 0, none⟩) y141.length co19) y142 := (by rw [hw, Ny142.out]; exact HP33.1); clear HP33; have n0_ := Aside0.mk (Kd.R_over' (v := (.slice (some ⟨go19, 0, none⟩) y141.length co19)) (by (with_reducible repeat (first | apply Kd.R_alloc | apply Kd.R_drewN | apply Kd.R_drew)); exact HO_3.out) (Kd.R_typed HO_5.out) (by decide) hg); have n1_ := Aside0.mk (hp_); have n2_ := Aside0.mk ((by rw [hw]; exact below_set (HB.out) GB19.out : Below w.heap.size w w34)); clear HO_3; clear HO_5; clear HB; have HO_3 := n0_; have HO_5 := n1_; have HB := n2_; clear n0_ n1_ n2_; clear hg hw hp_))
      go_loopg [31] kj21 (fun kq v31 w' => ∃ (x5_3 : List Int) (x31_3 : Int), v31 = .int .i64 x31_3 ∧ Aside0 (sha_Sum.l1 kq x3_1 (IntKind.u64.wrap ((IntKind.u64.wrap ((a0.size : Int))) * 8)) x5_3 x6_21 x31_3 = some r) ∧ Aside0 (kq ≤ kj21) ∧ Aside0 (Kd.R (Kd.int .u32) 56 w' w.heap.size (fun _ => True) (.slice (some ⟨go5, 0, none⟩) x3_1.length co5) x3_1) ∧ Aside0 (Kd.R (Kd.int .u8) 59 w' w.heap.size (fun _ => True) (.slice (some ⟨go19, 0, none⟩) y141.length co19) x5_3) ∧ Aside0 (Below w.heap.size w w'))
      case atStart => exact ⟨(y142), (0), (by first | rfl | (simp; done) | (simp [*]; done) | exact congrArg Value.bool (nonempty_l _) | (refine congrArg (Value.int _) ?_; first | omega | (unfold Go.RowKit.wrap64; omega))), H', ⟨Nat.le_refl _⟩, ⟨by (try simp only [hl3_1]); (try simp only [hl5_21]); (with_reducible repeat (first | apply Kd.R_alloc | apply Kd.R_drewN | apply Kd.R_drew)); exact HO_3.out⟩, ⟨by (try simp only [hl3_1]); (try simp only [hl5_21]); (with_reducible repeat (first | apply Kd.R_alloc | apply Kd.R_drewN | apply Kd.R_drew)); exact HO_5.out⟩, ⟨by repeat (first | (with_reducible first | exact HB.out | apply below_alloc | apply pw_below_drewN | apply below_drew1) | exact HB.out)⟩⟩
      case round =>
       clear H'
       (try clear c1); (try clear p1); (try clear q1); (try clear hx1); (try clear qi1); (try clear hf1); (try clear c2); (try clear p2); (try clear q2); (try clear hx2); (try clear qi2); (try clear hf2); (try clear c3); (try clear c3b0); (try clear c3b1); (try clear p3); (try clear q3); (try clear hx3); (try clear hf3); (try clear c4); (try clear c4b0); (try clear c4b1); (try clear p5); (try clear q5); (try clear hx5); (try clear qi5); (try clear hf5); (try clear p6); (try clear c11); (try clear c11b0); (try clear c11b1); (try clear c11b7); (try clear c11b8); (try clear c12); (try clear c12b0); (try clear c12b1); (try clear c13); (try clear c13b0); (try clear c13b1); (try clear c15); (try clear c15b0); (try clear c17); (try clear c17b0); (try clear c17b1); (try clear c18); (try clear c18b0); (try clear c18b1); (try clear c18b7); (try clear c18b8); (try clear p19); (try clear q19); (try clear hx19); (try clear qi19); (try clear hf19); (try clear c20); (try clear c20b0); (try clear c20b1); (try clear p21); (try clear q21); (try clear hx21); (try clear qi21); (try clear hf21); (try clear c28); (try clear c28b0); (try clear c28b1); (try clear c28b7); (try clear c28b8); (try clear c29); (try clear c29b0); (try clear c29b1); (try clear c30); (try clear c30b0); (try clear c30b1); (try clear c30b7); (try clear c30b8); (try clear c31); (try clear c31b0); (try clear c31b1); (try clear c31b7); (try clear c31b8); (try clear p32); (try clear q32); (try clear hx32); (try clear hf32); (try clear c33); (try clear c34); (try clear hx19_0); (try clear hx21_0); (try clear hx32_0); (try clear hx5_0); (try clear p1); (try clear p19); (try clear p2); (try clear p21); (try clear p32); (try clear p5); (try clear p6); (try clear q1); (try clear q19); (try clear q2); (try clear q21); (try clear q32); (try clear q5)
       obtain ⟨x5_3, x31_3, rfl, HA, HK3, HO_3, HO_5, HB⟩ := hrel
       have hl5_3 := (Kd.R_reads' HO_5.out).1
       rw [hl5_3] at HO_5
       (try simp only [hl5_3])
       (try simp only [hl5_3] at HO_3)
       cases gk with
       | zero => exact absurd HA.out (by simp [sha_Sum.l1])
       | succ k3 =>
        have H := HA.out
        clear HA
        simp only [sha_Sum.l1] at H
        by_cases c35 : x31_3 < 8
        ·rw [if_pos c35] at H
         have c35b0 : decide (x31_3 < 8) = true := decide_eq_true c35
         (try (have c35b7 := c35b0; simp only [hl3_1, hl5_21, hl5_3] at c35b7))
         clear c35
         obtain ⟨ji36, hji36⟩ : ∃ j_ : Int, (wrap64 (8 * x31_3)) = j_ := ⟨_, rfl⟩
         replace H : (if 0 ≤ (ji36) then (if x5_3.length = 128 then (if 0 ≤ (wrap64 ((wrap64 (x6_21 - 1)) - x31_3)) then (if (wrap64 ((wrap64 (x6_21 - 1)) - x31_3)) < (x5_3.length : Int) then (sha_Sum.l1 k3 x3_1 (IntKind.u64.wrap ((IntKind.u64.wrap ((a0.size : Int))) * 8)) (x5_3.set ((wrap64 ((wrap64 (x6_21 - 1)) - x31_3)) : Int).toNat ((shr .u64 (IntKind.u64.wrap ((IntKind.u64.wrap ((a0.size : Int))) * 8)) (ji36)) % 256)) x6_21 (wrap64 (x31_3 + 1))) else (none)) else (none)) else (none)) else (none)) = some r := by first | (rw [hji36] at H; exact H) | (simp only [hji36] at H ⊢; exact H)
         have hji36w : (IntKind.i64.wrap (8 * x31_3)) = ji36 := (i64_w _).trans hji36
         by_cases c37 : 0 ≤ (ji36)
         rotate_left
         ·rw [if_neg c37] at H
          exact absurd H (by simp)
         rw [if_pos c37] at H
         have c37b0 := eq_true c37
         have c37b1 : decide (0 ≤ (ji36)) = true := decide_eq_true c37
         clear c37
         obtain ⟨ji38, hji38⟩ : ∃ j_ : Int, (shr .u64 (IntKind.u64.wrap ((IntKind.u64.wrap ((a0.size : Int))) * 8)) (ji36)) = j_ := ⟨_, rfl⟩
         replace H : (if x5_3.length = 128 then (if 0 ≤ (wrap64 ((wrap64 (x6_21 - 1)) - x31_3)) then (if (wrap64 ((wrap64 (x6_21 - 1)) - x31_3)) < (x5_3.length : Int) then (sha_Sum.l1 k3 x3_1 (IntKind.u64.wrap ((IntKind.u64.wrap ((a0.size : Int))) * 8)) (x5_3.set ((wrap64 ((wrap64 (x6_21 - 1)) - x31_3)) : Int).toNat ((ji38) % 256)) x6_21 (wrap64 (x31_3 + 1))) else (none)) else (none)) else (none)) = some r := by first | (rw [hji38] at H; exact H) | (simp only [hji38] at H ⊢; exact H)
         (try (have hji38o := hji38; simp only [u64_len (show a0.size ≤ 9223372036854775807 by omega)] at hji38o))
         have hji38_ : ((IntKind.u64.wrap ((IntKind.u64.wrap ((a0.size : Int))) * 8)) / 2 ^ min (ji36).toNat 64) = ji38 := hji38
         have hji38z : (ji36) ≤ 64 → ((IntKind.u64.wrap ((IntKind.u64.wrap ((a0.size : Int))) * 8)) / 2 ^ (ji36).toNat) = ji38 := shr_small hji38
         (try (have hji38n : (0 ≤ (ji36)) = True := eq_true (by omega)))
         by_cases c39 : x5_3.length = 128
         rotate_left
         ·rw [if_neg c39] at H
          exact absurd H (by simp)
         rw [if_pos c39] at H
         have c39b0 := eq_true c39
         have c39b1 : decide (x5_3.length = 128) = true := decide_eq_true c39
         clear c39
         obtain ⟨ji40, hji40⟩ : ∃ j_ : Int, (wrap64 ((wrap64 (x6_21 - 1)) - x31_3)) = j_ := ⟨_, rfl⟩
         replace H : (if 0 ≤ (ji40) then (if (ji40) < (x5_3.length : Int) then (sha_Sum.l1 k3 x3_1 (IntKind.u64.wrap ((IntKind.u64.wrap ((a0.size : Int))) * 8)) (x5_3.set ((ji40) : Int).toNat ((ji38) % 256)) x6_21 (wrap64 (x31_3 + 1))) else (none)) else (none)) = some r := by first | (rw [hji40] at H; exact H) | (simp only [hji40] at H ⊢; exact H)
         have hji40w : (IntKind.i64.wrap ((wrap64 (x6_21 - 1)) - x31_3)) = ji40 := (i64_w _).trans hji40
         by_cases c41 : 0 ≤ (ji40)
         rotate_left
         ·rw [if_neg c41] at H
          exact absurd H (by simp)
         rw [if_pos c41] at H
         have c41b0 : decide (0 ≤ (ji40)) = true := decide_eq_true c41
         (try (have c41b7 := c41b0; simp only [hl3_1, hl5_21, hl5_3] at c41b7))
         clear c41
         by_cases c42 : (ji40) < (x5_3.length : Int)
         rotate_left
         ·rw [if_neg c42] at H
          exact absurd H (by simp)
         rw [if_pos c42] at H
         have c42b0 : decide ((ji40) < (x5_3.length : Int)) = true := decide_eq_true c42
         (try (have c42b7 := c42b0; simp only [hl3_1, hl5_21, hl5_3] at c42b7))
         clear c42
         obtain ⟨y143, hy143⟩ : ∃ y_ : List Int, y_ = (x5_3.set ((ji40) : Int).toNat ((ji38) % 256)) := ⟨_, rfl⟩
         replace H : (sha_Sum.l1 k3 x3_1 (IntKind.u64.wrap ((IntKind.u64.wrap ((a0.size : Int))) * 8)) y143 x6_21 (wrap64 (x31_3 + 1))) = some r := by first | (rw [hy143]; with_reducible exact H) | (have H2_ := (Option.bind_some _ _).symm.trans H; rw [hy143]; with_reducible exact H2_) | (have H2_ := (Option.bind_some _ _).symm.trans H; with_reducible exact H2_) | with_reducible exact H | (rw [hy143]; exact H) | exact H
         have Ny143 := Aside0.mk hy143
         clear hy143
         have H' := Aside0.mk H
         clear H
         have qa43 : (((ji40) : Int) < (128 : Int)) = True := eq_true (by have e_ : x5_3.length = 128 := of_decide_eq_true (by first | (with_reducible assumption) | assumption); have h_ : ((ji40) : Int) < ((x5_3.length : Int) : Int) := of_decide_eq_true (by first | (with_reducible assumption) | assumption); omega)
         have p43 : 0 ≤ ((ji40) : Int) := of_decide_eq_true (by first | (with_reducible assumption) | assumption)
         have q43 : ((ji40) : Int) < ((x5_3.length : Int) : Int) := of_decide_eq_true (by first | (with_reducible assumption) | assumption)
         obtain ⟨hx43_0, hf43_0⟩ := Kd.R_celln 0 HO_5.out ((ji40) : Int) p43 q43
         replace p43 := eq_true p43
         replace q43 := eq_true q43
         have HP44 := Kd.R_putg HO_5.out ((ji40) : Int) ((ji38) % 256)
         go_wp2_with (first | ((with_reducible refine gate_store (t := 5) (p := 43) rfl ?_); refine store_event (t := 5) (p := 43) (v := ?vo_w45) (w1 := (wr.setCell ⟨go19, ((ji40) : Int).toNat, none⟩ (.int .u8 ((ji38) % 256)))) ?hg ?ho ?hn ?hr ?_; (case ho => rfl); (case hg => rfl); (case hn => rfl); (case hr => first | (go_simp; done) | (go_simp; rfl)); intro w45 hw; have hg : wr.grownBy w45 (some go19) := (by rw [hw]; exact HP44.2); have hp_ : Kd.R (Kd.int .u8) 59 w45 w.heap.size (fun _ => True) (.slice (some ⟨go19, 0, none⟩) x5_3.length co19) y143 := (by rw [hw, Ny143.out]; exact HP44.1); clear HP44; have n0_ := Aside0.mk (Kd.R_over' (v := (.slice (some ⟨go19, 0, none⟩) x5_3.length co19)) (by (with_reducible repeat (first | apply Kd.R_alloc | apply Kd.R_drewN | apply Kd.R_drew)); exact HO_3.out) (Kd.R_typed HO_5.out) (by decide) hg); have n1_ := Aside0.mk (hp_); have n2_ := Aside0.mk ((by rw [hw]; exact below_set (HB.out) GB19.out : Below w.heap.size w w45)); clear HO_3; clear HO_5; clear HB; have HO_3 := n0_; have HO_5 := n1_; have HB := n2_; clear n0_ n1_ n2_; clear hg hw hp_))
         (try simp only [← hl5_3])
         go_roundg k3
         case measure => have := HK1.out; have := HJ21.out; have := HK3.out; omega
         case rel => exact ⟨(y143), (wrap64 (x31_3 + 1)), (by first | rfl | (simp; done) | (simp [*]; done) | exact congrArg Value.bool (nonempty_l _) | (refine congrArg (Value.int _) ?_; first | omega | (unfold Go.RowKit.wrap64; omega))), H', ⟨by have := HK1.out; have := HJ21.out; have := HK3.out; omega⟩, ⟨by (try simp only [hl3_1]); (try simp only [hl5_21]); (try simp only [hl5_3]); (with_reducible repeat (first | apply Kd.R_alloc | apply Kd.R_drewN | apply Kd.R_drew)); exact HO_3.out⟩, ⟨by (try simp only [hl3_1]); (try simp only [hl5_21]); (try simp only [hl5_3]); (with_reducible repeat (first | apply Kd.R_alloc | apply Kd.R_drewN | apply Kd.R_drew)); exact HO_5.out⟩, ⟨by repeat (first | (with_reducible first | exact HB.out | apply below_alloc | apply pw_below_drewN | apply below_drew1) | exact HB.out)⟩⟩
        ·rw [if_neg c35] at H
         have c35b0 : decide (x31_3 < 8) = false := decide_eq_false c35
         (try (have c35b7 := c35b0; simp only [hl3_1, hl5_21, hl5_3] at c35b7))
         clear c35
         by_cases c46 : x5_3.length = 128
         rotate_left
         ·rw [if_neg c46] at H
          exact absurd H (by simp)
         rw [if_pos c46] at H
         have c46b0 := eq_true c46
         have c46b1 : decide (x5_3.length = 128) = true := decide_eq_true c46
         clear c46
         by_cases c47 : 0 ≤ x6_21
         rotate_left
         ·rw [if_neg c47] at H
          exact absurd H (by simp)
         rw [if_pos c47] at H
         have c47b0 := eq_true c47
         have c47b1 : decide (0 ≤ x6_21) = true := decide_eq_true c47
         clear c47
         by_cases c48 : x6_21 ≤ 128
         rotate_left
         ·rw [if_neg c48] at H
          exact absurd H (by simp)
         rw [if_pos c48] at H
         have c48b0 := eq_true c48
         have c48b1 : decide (x6_21 ≤ 128) = true := decide_eq_true c48
         clear c48
         by_cases c49 : 0 < (x5_3.length : Int)
         rotate_left
         ·rw [if_neg c49] at H
          exact absurd H (by simp)
         rw [if_pos c49] at H
         have c49b0 : decide (0 < (x5_3.length : Int)) = true := decide_eq_true c49
         have c49b1 : decide (0 < x5_3.length) = true := decide_eq_true (by omega)
         (try (have c49b7 := c49b0; simp only [hl3_1, hl5_21, hl5_3] at c49b7))
         (try (have c49b8 := c49b1; simp only [hl3_1, hl5_21, hl5_3] at c49b8))
         clear c49
         have H' := Aside0.mk H
         clear H
         have qa50 : ((0 : Int) < (128 : Int)) = True := eq_true (by have e_ : x5_3.length = 128 := of_decide_eq_true (by first | (with_reducible assumption) | assumption); have h_ : (0 : Int) < ((x5_3.length : Int) : Int) := of_decide_eq_true (by first | (with_reducible assumption) | assumption); omega)
         have p50 : 0 ≤ (0 : Int) := (by omega)
         have q50 : (0 : Int) < ((x5_3.length : Int) : Int) := of_decide_eq_true (by first | (with_reducible assumption) | assumption)
         have qi50 : (0 < x5_3.length) = True := eq_true (by omega)
         obtain ⟨hx50_0, hf50_0⟩ := Kd.R_celln 0 HO_5.out (0 : Int) p50 q50
         (try rw [show ((0 : Int)).toNat = 0 from rfl] at hx50_0)
         (try simp only [Nat.reduceMul, Nat.zero_mul, Nat.zero_add, Nat.reduceAdd] at hx50_0)
         (try rw [show ((0 : Int)).toNat = 0 from rfl] at hf50_0)
         (try simp only [Nat.reduceMul, Nat.zero_mul, Nat.zero_add, Nat.reduceAdd] at hf50_0)
         replace p50 := eq_true p50
         replace q50 := eq_true q50
         have p51 : 0 ≤ (x6_21 : Int) := of_decide_eq_true (by first | (with_reducible assumption) | assumption)
         have q51 : (x6_21 : Int) ≤ (128 : Int) := of_decide_eq_true (by first | (with_reducible assumption) | assumption)
         go_wp2_with (first | ((with_reducible refine gate_dst (N := 46) rfl ?_); refine aslice_to_event (P := Tryd.prog) rfl (N := 46) rfl 59 5 128 _ _ _ rfl rfl (x6_21 : Int) rfl p51 q51 Tryd.underlying59 (by go_simp) ?_; have hm52 : (x6_21 : Int).toNat ≤ x5_3.length := (by have e_ : x5_3.length = 128 := of_decide_eq_true (by first | (with_reducible assumption) | assumption); have e2_ := (Kd.R_reads' HO_5.out).1; first | omega | (have e3_ : (x6_21 : Int) ≤ 128 := of_decide_eq_true (by first | (with_reducible assumption) | assumption); omega))) | ((with_reducible refine gate_dst (N := 47) rfl ?_); refine astr_event (P := Tryd.prog) rfl (N := 47) rfl 52 9 5 _ rfl rfl Tryd.underlying52 Tryd.underlying5 Tryd.underlying9 HO_5.out hm52 ?_))
         go_loopg [8] k3 (fun kq v8 w' => ∃ (x3_4 : List Int) (x8_4 : ByteArray), v8 = .string x8_4 ∧ Aside0 (sha_Sum.l2 kq x3_4 x8_4 = some r) ∧ Aside0 (kq ≤ k3) ∧ Aside0 (Kd.R (Kd.int .u32) 56 w' w.heap.size (fun _ => True) (.slice (some ⟨go5, 0, none⟩) x3_1.length co5) x3_4) ∧ Aside0 (Below w.heap.size w w'))
         case atStart => exact ⟨(x3_1), (strOfNums (x5_3.take (x6_21 : Int).toNat)), (by first | rfl | (simp; done) | (simp [*]; done) | exact congrArg Value.bool (nonempty_l _) | (refine congrArg (Value.int _) ?_; first | omega | (unfold Go.RowKit.wrap64; omega))), H', ⟨Nat.le_refl _⟩, ⟨by (try simp only [hl3_1]); (try simp only [hl5_21]); (try simp only [hl5_3]); (with_reducible repeat (first | apply Kd.R_alloc | apply Kd.R_drewN | apply Kd.R_drew)); exact HO_3.out⟩, ⟨by repeat (first | (with_reducible first | exact HB.out | apply below_alloc | apply pw_below_drewN | apply below_drew1) | exact HB.out)⟩⟩
         case round =>
          clear H'
          (try clear c1); (try clear p1); (try clear q1); (try clear hx1); (try clear qi1); (try clear hf1); (try clear c2); (try clear p2); (try clear q2); (try clear hx2); (try clear qi2); (try clear hf2); (try clear c3); (try clear c3b0); (try clear c3b1); (try clear p3); (try clear q3); (try clear hx3); (try clear hf3); (try clear c4); (try clear c4b0); (try clear c4b1); (try clear p4); (try clear q4); (try clear hx4); (try clear hf4); (try clear p5); (try clear q5); (try clear hx5); (try clear qi5); (try clear hf5); (try clear p6); (try clear c11); (try clear c11b0); (try clear c11b1); (try clear c11b7); (try clear c11b8); (try clear c12); (try clear c12b0); (try clear c12b1); (try clear c13); (try clear c13b0); (try clear c13b1); (try clear c15); (try clear c15b0); (try clear c17); (try clear c17b0); (try clear c17b1); (try clear c18); (try clear c18b0); (try clear c18b1); (try clear c18b7); (try clear c18b8); (try clear p19); (try clear q19); (try clear hx19); (try clear qi19); (try clear hf19); (try clear c20); (try clear c20b0); (try clear c20b1); (try clear p21); (try clear q21); (try clear hx21); (try clear qi21); (try clear hf21); (try clear c28); (try clear c28b0); (try clear c28b1); (try clear c28b7); (try clear c28b8); (try clear c29); (try clear c29b0); (try clear c29b1); (try clear c30); (try clear c30b0); (try clear c30b1); (try clear c30b7); (try clear c30b8); (try clear c31); (try clear c31b0); (try clear c31b1); (try clear c31b7); (try clear c31b8); (try clear p32); (try clear q32); (try clear hx32); (try clear hf32); (try clear c33); (try clear c34); (try clear c35); (try clear c35b0); (try clear c35b7); (try clear c37); (try clear c37b0); (try clear c37b1); (try clear c39); (try clear c39b0); (try clear c39b1); (try clear c41); (try clear c41b0); (try clear c41b7); (try clear c42); (try clear c42b0); (try clear c42b7); (try clear p43); (try clear q43); (try clear hx43); (try clear hf43); (try clear c46); (try clear c46b0); (try clear c46b1); (try clear c47); (try clear c47b0); (try clear c47b1); (try clear c48); (try clear c48b0); (try clear c48b1); (try clear c49); (try clear c49b0); (try clear c49b1); (try clear c49b7); (try clear c49b8); (try clear p50); (try clear q50); (try clear hx50); (try clear qi50); (try clear hf50); (try clear p51); (try clear q51); (try clear hx19_0); (try clear hx21_0); (try clear hx32_0); (try clear hx43_0); (try clear hx50_0); (try clear hx5_0); (try clear p1); (try clear p19); (try clear p2); (try clear p21); (try clear p3); (try clear p32); (try clear p43); (try clear p5); (try clear p50); (try clear p51); (try clear p6); (try clear q1); (try clear q19); (try clear q2); (try clear q21); (try clear q3); (try clear q32); (try clear q43); (try clear q5); (try clear q50); (try clear q51)
          obtain ⟨x3_4, x8_4, rfl, HA, HK4, HO_3, HB⟩ := hrel
          have hl3_4 := (Kd.R_reads' HO_3.out).1
          rw [hl3_4] at HO_3
          (try simp only [hl3_4])
          cases gk with
          | zero => exact absurd HA.out (by simp [sha_Sum.l2])
          | succ k4 =>
           have H := HA.out
           clear HA
           simp only [sha_Sum.l2] at H
           by_cases c53 : x8_4.toList = ([] : List UInt8)
           ·rw [if_pos c53] at H
            have c53b0 : (x8_4.toList == ([] : List UInt8)) = true := beq_iff_eq.mpr c53
            have c53b1 : (x8_4.toList != ([] : List UInt8)) = false := bne_eq_false_iff_eq.mpr c53
            (try (have c53b7 := c53b0; simp only [hl3_1, hl5_21, hl5_3, hl3_4] at c53b7))
            (try (have c53b8 := c53b1; simp only [hl3_1, hl5_21, hl5_3, hl3_4] at c53b8))
            clear c53
            obtain ⟨y145, hy145⟩ : ∃ y_ : List Int, y_ = (List.replicate 32 0) := ⟨_, rfl⟩
            replace H : (sha_Sum.l3 k4 x3_4 y145 0) = some r := by first | (rw [hy145]; with_reducible exact H) | (have H2_ := (Option.bind_some _ _).symm.trans H; rw [hy145]; with_reducible exact H2_) | (have H2_ := (Option.bind_some _ _).symm.trans H; with_reducible exact H2_) | with_reducible exact H | (rw [hy145]; exact H) | exact H
            have Ny145 := Aside0.mk hy145
            clear hy145
            have H' := Aside0.mk H
            clear H
            go_wp2_with (first | ((with_reducible refine gate_dst (N := 9) rfl ?_); refine R_arr (Value.int .u8) (fun _ => rfl) _ 60 ?hg (N := 9) ?hd (List.replicate 32 0) ?hr (Below.refl _ _) (Nat.le_refl _) (by decide) ?_; (case hd => rfl); (case hg => rfl); (case hr => first | (go_simp; done) | (go_simp; rfl)); intro v146 w54 ho55 hb hg_ hnew_; clear hg_ hnew_; (first | rw [← Ny145.out] at ho55 | (simp only [Int.reduceToNat] at ho55; rw [← Ny145.out] at ho55)); have n0_ := Aside0.mk (Kd.R_below (by (with_reducible repeat (first | apply Kd.R_alloc | apply Kd.R_drewN | apply Kd.R_drew)); exact HO_3.out) hb); have n1_ := Aside0.mk (Kd.R_lower ho55 (below_size (by repeat (first | (with_reducible first | exact HB.out | apply below_alloc | apply pw_below_drewN | apply below_drew1) | exact HB.out)))); have n2_ := Aside0.mk (below_step (by repeat (first | (with_reducible first | exact HB.out | apply below_alloc | apply pw_below_drewN | apply below_drew1) | exact HB.out)) hb); clear HO_3; clear HB; have HO_3 := n0_; have HO147 := n1_; have HB := n2_; clear n0_ n1_ n2_; clear hb ho55))
            go_loopg [55] k4 (fun kq v55 w' => ∃ (x9_5 : List Int) (x55_5 : Int), v55 = .int .i64 x55_5 ∧ Aside0 (sha_Sum.l3 kq x3_4 x9_5 x55_5 = some r) ∧ Aside0 (kq ≤ k4) ∧ Aside0 (Kd.R (Kd.int .u32) 56 w' w.heap.size (fun _ => True) (.slice (some ⟨go5, 0, none⟩) x3_4.length co5) x3_4) ∧ Aside0 (Kd.R (Kd.int .u8) 60 w' w.heap.size (fun _ => True) v146 x9_5) ∧ Aside0 (Below w.heap.size w w'))
            case atStart => exact ⟨(y145), (0), (by first | rfl | (simp; done) | (simp [*]; done) | exact congrArg Value.bool (nonempty_l _) | (refine congrArg (Value.int _) ?_; first | omega | (unfold Go.RowKit.wrap64; omega))), H', ⟨Nat.le_refl _⟩, ⟨by (try simp only [hl3_1]); (try simp only [hl5_21]); (try simp only [hl5_3]); (try simp only [hl3_4]); (with_reducible repeat (first | apply Kd.R_alloc | apply Kd.R_drewN | apply Kd.R_drew)); exact HO_3.out⟩, ⟨by (try simp only [hl3_1]); (try simp only [hl5_21]); (try simp only [hl5_3]); (try simp only [hl3_4]); (with_reducible repeat (first | apply Kd.R_alloc | apply Kd.R_drewN | apply Kd.R_drew)); exact HO147.out⟩, ⟨by repeat (first | (with_reducible first | exact HB.out | apply below_alloc | apply pw_below_drewN | apply below_drew1) | exact HB.out)⟩⟩
            case round =>
             clear H'
             (try clear c1); (try clear p1); (try clear q1); (try clear hx1); (try clear qi1); (try clear hf1); (try clear c2); (try clear p2); (try clear q2); (try clear hx2); (try clear qi2); (try clear hf2); (try clear c3); (try clear c3b0); (try clear c3b1); (try clear p3); (try clear q3); (try clear hx3); (try clear hf3); (try clear c4); (try clear c4b0); (try clear c4b1); (try clear p4); (try clear q4); (try clear hx4); (try clear hf4); (try clear c5); (try clear p5); (try clear q5); (try clear hx5); (try clear qi5); (try clear hf5); (try clear p6); (try clear c11); (try clear c11b0); (try clear c11b1); (try clear c11b7); (try clear c11b8); (try clear c12); (try clear c12b0); (try clear c12b1); (try clear c13); (try clear c13b0); (try clear c13b1); (try clear c15); (try clear c15b0); (try clear c17); (try clear c17b0); (try clear c17b1); (try clear c18); (try clear c18b0); (try clear c18b1); (try clear c18b7); (try clear c18b8); (try clear p19); (try clear q19); (try clear hx19); (try clear qi19); (try clear hf19); (try clear c20); (try clear c20b0); (try clear c20b1); (try clear p21); (try clear q21); (try clear hx21); (try clear qi21); (try clear hf21); (try clear c28); (try clear c28b0); (try clear c28b1); (try clear c28b7); (try clear c28b8); (try clear c29); (try clear c29b0); (try clear c29b1); (try clear c30); (try clear c30b0); (try clear c30b1); (try clear c30b7); (try clear c30b8); (try clear c31); (try clear c31b0); (try clear c31b1); (try clear c31b7); (try clear c31b8); (try clear p32); (try clear q32); (try clear hx32); (try clear hf32); (try clear c33); (try clear c34); (try clear c35); (try clear c35b0); (try clear c35b7); (try clear c37); (try clear c37b0); (try clear c37b1); (try clear c39); (try clear c39b0); (try clear c39b1); (try clear c41); (try clear c41b0); (try clear c41b7); (try clear c42); (try clear c42b0); (try clear c42b7); (try clear p43); (try clear q43); (try clear hx43); (try clear hf43); (try clear c46); (try clear c46b0); (try clear c46b1); (try clear c47); (try clear c47b0); (try clear c47b1); (try clear c48); (try clear c48b0); (try clear c48b1); (try clear c49); (try clear c49b0); (try clear c49b1); (try clear c49b7); (try clear c49b8); (try clear p50); (try clear q50); (try clear hx50); (try clear qi50); (try clear hf50); (try clear p51); (try clear q51); (try clear c53); (try clear c53b0); (try clear c53b1); (try clear c53b7); (try clear c53b8); (try clear hx19_0); (try clear hx21_0); (try clear hx32_0); (try clear hx43_0); (try clear hx50_0); (try clear hx5_0); (try clear p1); (try clear p19); (try clear p2); (try clear p21); (try clear p3); (try clear p32); (try clear p4); (try clear p43); (try clear p5); (try clear p50); (try clear p51); (try clear p6); (try clear q1); (try clear q19); (try clear q2); (try clear q21); (try clear q3); (try clear q32); (try clear q4); (try clear q43); (try clear q5); (try clear q50); (try clear q51)
             obtain ⟨x9_5, x55_5, rfl, HA, HK5, HO_3, HO_9, HB⟩ := hrel
             cases gk with
             | zero => exact absurd HA.out (by simp [sha_Sum.l3])
             | succ k5 =>
              have H := HA.out
              clear HA
              simp only [sha_Sum.l3] at H
              by_cases c56 : x55_5 < 32
              ·rw [if_pos c56] at H
               have c56b0 : decide (x55_5 < 32) = true := decide_eq_true c56
               (try (have c56b7 := c56b0; simp only [hl3_1, hl5_21, hl5_3, hl3_4] at c56b7))
               clear c56
               by_cases c57 : x3_4.length = 8
               rotate_left
               ·rw [if_neg c57] at H
                exact absurd H (by simp)
               rw [if_pos c57] at H
               have c57b0 := eq_true c57
               have c57b1 : decide (x3_4.length = 8) = true := decide_eq_true c57
               clear c57
               obtain ⟨ji58, hji58⟩ : ∃ j_ : Int, (wrap64 (Int.tdiv x55_5 4)) = j_ := ⟨_, rfl⟩
               replace H : (if 0 ≤ (ji58) then (if (ji58) < (x3_4.length : Int) then (if 0 ≤ (wrap64 (24 - (wrap64 (8 * (Int.tmod x55_5 4))))) then (if x9_5.length = 32 then (if 0 ≤ x55_5 then (if x55_5 < (x9_5.length : Int) then (sha_Sum.l3 k5 x3_4 (x9_5.set (x55_5 : Int).toNat ((shr .u32 (rd x3_4 (ji58)) (wrap64 (24 - (wrap64 (8 * (Int.tmod x55_5 4)))))) % 256)) (wrap64 (x55_5 + 1))) else (none)) else (none)) else (none)) else (none)) else (none)) else (none)) = some r := by first | (rw [hji58] at H; exact H) | (simp only [hji58] at H ⊢; exact H)
               have hji58w : (IntKind.i64.wrap (Int.tdiv x55_5 4)) = ji58 := (i64_w _).trans hji58
               by_cases c59 : 0 ≤ (ji58)
               rotate_left
               ·rw [if_neg c59] at H
                exact absurd H (by simp)
               rw [if_pos c59] at H
               have c59b0 : decide (0 ≤ (ji58)) = true := decide_eq_true c59
               (try (have c59b7 := c59b0; simp only [hl3_1, hl5_21, hl5_3, hl3_4] at c59b7))
               clear c59
               by_cases c60 : (ji58) < (x3_4.length : Int)
               rotate_left
               ·rw [if_neg c60] at H
                exact absurd H (by simp)
               rw [if_pos c60] at H
               have c60b0 : decide ((ji58) < (x3_4.length : Int)) = true := decide_eq_true c60
               (try (have c60b7 := c60b0; simp only [hl3_1, hl5_21, hl5_3, hl3_4] at c60b7))
               clear c60
               obtain ⟨ji61, hji61⟩ : ∃ j_ : Int, (wrap64 (24 - (wrap64 (8 * (Int.tmod x55_5 4))))) = j_ := ⟨_, rfl⟩
               replace H : (if 0 ≤ (ji61) then (if x9_5.length = 32 then (if 0 ≤ x55_5 then (if x55_5 < (x9_5.length : Int) then (sha_Sum.l3 k5 x3_4 (x9_5.set (x55_5 : Int).toNat ((shr .u32 (rd x3_4 (ji58)) (ji61)) % 256)) (wrap64 (x55_5 + 1))) else (none)) else (none)) else (none)) else (none)) = some r := by first | (rw [hji61] at H; exact H) | (simp only [hji61] at H ⊢; exact H)
               have hji61w : (IntKind.i64.wrap (24 - (wrap64 (8 * (Int.tmod x55_5 4))))) = ji61 := (i64_w _).trans hji61
               by_cases c62 : 0 ≤ (ji61)
               rotate_left
               ·rw [if_neg c62] at H
                exact absurd H (by simp)
               rw [if_pos c62] at H
               have c62b0 := eq_true c62
               have c62b1 : decide (0 ≤ (ji61)) = true := decide_eq_true c62
               clear c62
               obtain ⟨ji63, hji63⟩ : ∃ j_ : Int, (shr .u32 (rd x3_4 (ji58)) (ji61)) = j_ := ⟨_, rfl⟩
               replace H : (if x9_5.length = 32 then (if 0 ≤ x55_5 then (if x55_5 < (x9_5.length : Int) then (sha_Sum.l3 k5 x3_4 (x9_5.set (x55_5 : Int).toNat ((ji63) % 256)) (wrap64 (x55_5 + 1))) else (none)) else (none)) else (none)) = some r := by first | (rw [hji63] at H; exact H) | (simp only [hji63] at H ⊢; exact H)
               have hji63_ : ((rd x3_4 (ji58)) / 2 ^ min (ji61).toNat 32) = ji63 := hji63
               have hji63z : (ji61) ≤ 32 → ((rd x3_4 (ji58)) / 2 ^ (ji61).toNat) = ji63 := shr_small hji63
               (try (have hji63n : (0 ≤ (ji61)) = True := eq_true (by omega)))
               by_cases c64 : x9_5.length = 32
               rotate_left
               ·rw [if_neg c64] at H
                exact absurd H (by simp)
               rw [if_pos c64] at H
               have c64b0 := eq_true c64
               have c64b1 : decide (x9_5.length = 32) = true := decide_eq_true c64
               clear c64
               by_cases c65 : 0 ≤ x55_5
               rotate_left
               ·rw [if_neg c65] at H
                exact absurd H (by simp)
               rw [if_pos c65] at H
               have c65b0 : decide (0 ≤ x55_5) = true := decide_eq_true c65
               (try (have c65b7 := c65b0; simp only [hl3_1, hl5_21, hl5_3, hl3_4] at c65b7))
               clear c65
               by_cases c66 : x55_5 < (x9_5.length : Int)
               rotate_left
               ·rw [if_neg c66] at H
                exact absurd H (by simp)
               rw [if_pos c66] at H
               have c66b0 : decide (x55_5 < (x9_5.length : Int)) = true := decide_eq_true c66
               (try (have c66b7 := c66b0; simp only [hl3_1, hl5_21, hl5_3, hl3_4] at c66b7))
               clear c66
               obtain ⟨y149, hy149⟩ : ∃ y_ : List Int, y_ = (x9_5.set (x55_5 : Int).toNat ((ji63) % 256)) := ⟨_, rfl⟩
               replace H : (sha_Sum.l3 k5 x3_4 y149 (wrap64 (x55_5 + 1))) = some r := by first | (rw [hy149]; with_reducible exact H) | (have H2_ := (Option.bind_some _ _).symm.trans H; rw [hy149]; with_reducible exact H2_) | (have H2_ := (Option.bind_some _ _).symm.trans H; with_reducible exact H2_) | with_reducible exact H | (rw [hy149]; exact H) | exact H
               have Ny149 := Aside0.mk hy149
               clear hy149
               have H' := Aside0.mk H
               clear H
               have qa148 : (((ji58) : Int) < (8 : Int)) = True := eq_true (by have e_ : x3_4.length = 8 := of_decide_eq_true (by first | (with_reducible assumption) | assumption); have h_ : ((ji58) : Int) < ((x3_4.length : Int) : Int) := of_decide_eq_true (by first | (with_reducible assumption) | assumption); omega)
               have p148 : 0 ≤ ((ji58) : Int) := of_decide_eq_true (by first | (with_reducible assumption) | assumption)
               have q148 : (ji58) < (x3_4.length : Int) := of_decide_eq_true (by first | (with_reducible assumption) | assumption)
               obtain ⟨ad148, e148, hx148_0⟩ := Kd.at_int (Kd.R_reads' HO_3.out).2.2 (ji58) p148 q148
               obtain rfl : (⟨go5, 0, none⟩ : Addr) = ad148 := (by injection e148)
               (first | simp only [add_plain] at hx148_0 | simp only [add_at] at hx148_0 | simp only [Addr.add, Nat.zero_add] at hx148_0 | skip)
               replace p148 := eq_true p148
               replace q148 := eq_true q148
               have qa67 : ((x55_5 : Int) < (32 : Int)) = True := eq_true (by have e_ : x9_5.length = 32 := of_decide_eq_true (by first | (with_reducible assumption) | assumption); have h_ : (x55_5 : Int) < ((x9_5.length : Int) : Int) := of_decide_eq_true (by first | (with_reducible assumption) | assumption); omega)
               have p67 : 0 ≤ (x55_5 : Int) := of_decide_eq_true (by first | (with_reducible assumption) | assumption)
               have q67 : (x55_5 : Int) < ((x9_5.length : Int) : Int) := of_decide_eq_true (by first | (with_reducible assumption) | assumption)
               obtain ⟨go67, co67, eo67, gb67, gl67, cl67, HG67⟩ := Kd.R_form HO_9.out (by omega)
               (first | cases eo67 | (injection eo67 with ea_ en_ ec_; (first | subst ea_ | (injection ea_ with ea_; subst ea_)); subst ec_; clear en_))
               have GB67 := Aside0.mk gb67
               have GG67 := Aside0.mk HG67
               clear gb67 gl67 HG67
               obtain ⟨hx67_0, hf67_0⟩ := Kd.R_celln 0 HO_9.out (x55_5 : Int) p67 q67
               replace p67 := eq_true p67
               replace q67 := eq_true q67
               have HP68 := Kd.R_putg HO_9.out (x55_5 : Int) ((ji63) % 256)
               go_wp2_with (first | ((with_reducible refine gate_store (t := 5) (p := 69) rfl ?_); refine store_event (t := 5) (p := 69) (v := ?vo_w69) (w1 := (wr.setCell ⟨go67, (x55_5 : Int).toNat, none⟩ (.int .u8 ((ji63) % 256)))) ?hg ?ho ?hn ?hr ?_; (case ho => rfl); (case hg => rfl); (case hn => rfl); (case hr => first | (go_simp; done) | (go_simp; rfl)); intro w69 hw; have hg : wr.grownBy w69 (some go67) := (by rw [hw]; exact HP68.2); have hp_ : Kd.R (Kd.int .u8) 60 w69 w.heap.size (fun _ => True) (.slice (some ⟨go67, 0, none⟩) x9_5.length co67) y149 := (by rw [hw, Ny149.out]; exact HP68.1); clear HP68; have n0_ := Aside0.mk (Kd.R_over' (v := (.slice (some ⟨go67, 0, none⟩) x9_5.length co67)) (by (with_reducible repeat (first | apply Kd.R_alloc | apply Kd.R_drewN | apply Kd.R_drew)); exact HO_3.out) (Kd.R_typed HO_9.out) (by decide) hg); have n1_ := Aside0.mk (hp_); have n2_ := Aside0.mk ((by rw [hw]; exact below_set (HB.out) GB67.out : Below w.heap.size w w69)); clear HO_3; clear HO_9; clear HB; have HO_3 := n0_; have HO_9 := n1_; have HB := n2_; clear n0_ n1_ n2_; clear hg hw hp_))
               go_roundg k5
               case measure => have := HK1.out; have := HJ21.out; have := HK3.out; have := HK4.out; have := HK5.out; omega
               case rel => exact ⟨(y149), (wrap64 (x55_5 + 1)), (by first | rfl | (simp; done) | (simp [*]; done) | exact congrArg Value.bool (nonempty_l _) | (refine congrArg (Value.int _) ?_; first | omega | (unfold Go.RowKit.wrap64; omega))), H', ⟨by have := HK1.out; have := HJ21.out; have := HK3.out; have := HK4.out; have := HK5.out; omega⟩, ⟨by (try simp only [hl3_1]); (try simp only [hl5_21]); (try simp only [hl5_3]); (try simp only [hl3_4]); (with_reducible repeat (first | apply Kd.R_alloc | apply Kd.R_drewN | apply Kd.R_drew)); exact HO_3.out⟩, ⟨by (try simp only [hl3_1]); (try simp only [hl5_21]); (try simp only [hl5_3]); (try simp only [hl3_4]); (with_reducible repeat (first | apply Kd.R_alloc | apply Kd.R_drewN | apply Kd.R_drew)); exact HO_9.out⟩, ⟨by repeat (first | (with_reducible first | exact HB.out | apply below_alloc | apply pw_below_drewN | apply below_drew1) | exact HB.out)⟩⟩
              ·rw [if_neg c56] at H
               have c56b0 : decide (x55_5 < 32) = false := decide_eq_false c56
               (try (have c56b7 := c56b0; simp only [hl3_1, hl5_21, hl5_3, hl3_4] at c56b7))
               clear c56
               by_cases c70 : x9_5.length = 32
               rotate_left
               ·rw [if_neg c70] at H
                exact absurd H (by simp)
               rw [if_pos c70] at H
               have c70b0 := eq_true c70
               have c70b1 : decide (x9_5.length = 32) = true := decide_eq_true c70
               clear c70
               by_cases c71 : 0 < (x9_5.length : Int)
               rotate_left
               ·rw [if_neg c71] at H
                exact absurd H (by simp)
               rw [if_pos c71] at H
               have c71b0 : decide (0 < (x9_5.length : Int)) = true := decide_eq_true c71
               have c71b1 : decide (0 < x9_5.length) = true := decide_eq_true (by omega)
               (try (have c71b7 := c71b0; simp only [hl3_1, hl5_21, hl5_3, hl3_4] at c71b7))
               (try (have c71b8 := c71b1; simp only [hl3_1, hl5_21, hl5_3, hl3_4] at c71b8))
               clear c71
               obtain rfl := Option.some.inj H
               have qa72 : ((0 : Int) < (32 : Int)) = True := eq_true (by have e_ : x9_5.length = 32 := of_decide_eq_true (by first | (with_reducible assumption) | assumption); have h_ : (0 : Int) < ((x9_5.length : Int) : Int) := of_decide_eq_true (by first | (with_reducible assumption) | assumption); omega)
               have p72 : 0 ≤ (0 : Int) := (by omega)
               have q72 : (0 : Int) < ((x9_5.length : Int) : Int) := of_decide_eq_true (by first | (with_reducible assumption) | assumption)
               have qi72 : (0 < x9_5.length) = True := eq_true (by omega)
               obtain ⟨go72, co72, eo72, gb72, gl72, cl72, HG72⟩ := Kd.R_form HO_9.out (by omega)
               (first | cases eo72 | (injection eo72 with ea_ en_ ec_; (first | subst ea_ | (injection ea_ with ea_; subst ea_)); subst ec_; clear en_))
               have GB72 := Aside0.mk gb72
               have GG72 := Aside0.mk HG72
               clear gb72 gl72 HG72
               obtain ⟨hx72_0, hf72_0⟩ := Kd.R_celln 0 HO_9.out (0 : Int) p72 q72
               (try rw [show ((0 : Int)).toNat = 0 from rfl] at hx72_0)
               (try simp only [Nat.reduceMul, Nat.zero_mul, Nat.zero_add, Nat.reduceAdd] at hx72_0)
               (try rw [show ((0 : Int)).toNat = 0 from rfl] at hf72_0)
               (try simp only [Nat.reduceMul, Nat.zero_mul, Nat.zero_add, Nat.reduceAdd] at hf72_0)
               replace p72 := eq_true p72
               replace q72 := eq_true q72
               go_wp2_with (first | ((with_reducible refine gate_dst (N := 71) rfl ?_); refine aslice_event (P := Tryd.prog) rfl (N := 71) rfl 60 5 32 _ _ rfl rfl Tryd.underlying60 (by go_simp) ?_; have hm74 : 32 ≤ x9_5.length := (by have e_ : x9_5.length = 32 := of_decide_eq_true (by first | (with_reducible assumption) | assumption); have e2_ := (Kd.R_reads' HO_9.out).1; first | omega | (have e3_ : (32 : Int) ≤ 32 := of_decide_eq_true (by first | (with_reducible assumption) | assumption); omega))) | ((with_reducible refine gate_dst (N := 72) rfl ?_); refine astr_event (P := Tryd.prog) rfl (N := 72) rfl 52 9 5 _ rfl rfl Tryd.underlying52 Tryd.underlying5 Tryd.underlying9 HO_9.out hm74 ?_))
               go_ret
               exact ⟨by first | rfl | (simp [errW_none, errW_some] <;> rfl) | (simp [*, errW_none, errW_some] <;> rfl), by repeat (first | (with_reducible first | exact HB.out | apply below_alloc | apply pw_below_drewN | apply below_drew1) | exact HB.out)⟩
           ·rw [if_neg c53] at H
            have c53b0 : (x8_4.toList == ([] : List UInt8)) = false := beq_eq_false_iff_ne.mpr c53
            have c53b1 : (x8_4.toList != ([] : List UInt8)) = true := bne_iff_ne.mpr c53
            (try (have c53b7 := c53b0; simp only [hl3_1, hl5_21, hl5_3, hl3_4] at c53b7))
            (try (have c53b8 := c53b1; simp only [hl3_1, hl5_21, hl5_3, hl3_4] at c53b8))
            by_cases c75 : 0 ≤ 64
            rotate_left
            ·rw [if_neg c75] at H
             exact absurd H (by simp)
            rw [if_pos c75] at H
            have c75b0 := eq_true c75
            have c75b1 : decide (0 ≤ 64) = true := decide_eq_true c75
            clear c75
            by_cases c76 : 64 ≤ (x8_4.size : Int)
            rotate_left
            ·rw [if_neg c76] at H
             exact absurd H (by simp)
            rw [if_pos c76] at H
            have c76b0 := eq_true c76
            have c76b1 : decide (64 ≤ (x8_4.size : Int)) = true := decide_eq_true c76
            clear c76
            replace H := Option.bind_eq_some_iff.mp H
            obtain ⟨t144, A770, H⟩ := H
            replace H : (sha_Sum.l2 k4 t144 (x8_4.extract 64 x8_4.size)) = some r := H
            have A77 := Aside0.mk A770
            clear A770
            have c78b0 := eq_true (of_decide_eq_true (by first | (with_reducible assumption) | assumption) : 64 ≤ (x8_4.size : Int))
            have H' := Aside0.mk H
            clear H
            go_wp2_with (first | ((with_reducible refine gate_callee (f := 34) rfl ?_); refine goesL_ (some 54) rfl rfl Tryd.func34 (by kernel_rfl) rfl #[.pointer (some ⟨go5, 0, none⟩), .string (x8_4.extract 0 64)] rfl (by (try simp only [List.map_toArray, List.map_cons, List.map_nil]); first | done | rfl | (simp only [List.length_drop, List.length_take]; rfl)) ?_; (with_reducible refine (sha_state_block.calls k4 (fun k_ => some k_ = (.slice (some ⟨go5, 0, none⟩) x3_4.length co5 : Value).ownBlock) (.slice (some ⟨go5, 0, none⟩) x3_4.length co5) x3_4 (x8_4.extract 0 64) t144 w _ ?side1 ?side2 ?side3 A77.out).mono ?_); (case side1 => repeat (first | (with_reducible first | exact HB.out | apply below_alloc | apply pw_below_drewN | apply below_drew1) | exact HB.out)); (case side2 => exact Kd.R_tight rfl HO_3.out); (case side3 => exact Kd.C_kept_came (Kd.heap_int .u32) HRG.out (by repeat (first | (with_reducible first | exact HB.out | apply below_alloc | apply pw_below_drewN | apply below_drew1) | exact HB.out)) (fun k_ hs_ => (fun e_ => Kd.R_base HO_3.out k_ e_.symm) hs_)); rintro e w79 ⟨rfl, hy0, hb, hkp⟩; refine ⟨_, rfl, ?_⟩; have n0_ := Aside0.mk (Kd.R_reok rfl hy0 (fun k_ e_ => HO_3.out.1 k_ e_)); have n1_ := Aside0.mk (hb); clear HO_3; clear HB; have HO_3 := n0_; have HB := n1_; clear n0_ n1_; (try clear hb); (try clear hkp); (try clear hy0)))
            (try simp only [← hl3_4])
            go_roundg k4
            case measure => have := HK1.out; have := HJ21.out; have := HK3.out; have := HK4.out; omega
            case rel => exact ⟨(t144), (x8_4.extract 64 x8_4.size), (by first | rfl | (simp; done) | (simp [*]; done) | exact congrArg Value.bool (nonempty_l _) | (refine congrArg (Value.int _) ?_; first | omega | (unfold Go.RowKit.wrap64; omega))), H', ⟨by have := HK1.out; have := HJ21.out; have := HK3.out; have := HK4.out; omega⟩, ⟨by (try simp only [hl3_1]); (try simp only [hl5_21]); (try simp only [hl5_3]); (try simp only [hl3_4]); (with_reducible repeat (first | apply Kd.R_alloc | apply Kd.R_drewN | apply Kd.R_drew)); exact HO_3.out⟩, ⟨by repeat (first | (with_reducible first | exact HB.out | apply below_alloc | apply pw_below_drewN | apply below_drew1) | exact HB.out)⟩⟩

-- NOT PRINTED: function 44 (abi_NoEscape)

-- NOT PRINTED: function 41 (strings_Builder_copyCheck)

-- NOT PRINTED: function 45 (bytealg_MakeNoZero)

-- NOT PRINTED: function 42 (strings_Builder_grow)

-- NOT PRINTED: function 35 (strings_Builder_Grow)

-- NOT PRINTED: function 36 (strings_Builder_WriteByte)

end Go.Proofs.YtmnppogihmhdgaaDoor.PP
